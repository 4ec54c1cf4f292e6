/- The walks of the parser's methods number and prefix, and of the reader's. Conditions: no field is longer than 10^9 bytes; Go's own tables lie below the parser (EnvB). -/
import Derived.Test.YtnhemjdmleilcaaDoorQryB
import Derived.Deep.AppendLies
namespace Go.Proofs.YtnhemjdmleilcaaDoor
open Go.RowKit

/-- What the walks ask of package-level variables: they lie below block B. -/
def EnvB (B : Nat) (w : World) : Prop := Env w ∧ 1 < B ∧ 2 < B ∧ 0 < B ∧ ∀ j x, kindWords[j]? = some x → w.cell? ⟨0, j, none⟩ = some (strV x)
theorem EnvB.keep {B : Nat} {w w' : World} (h : EnvB B w) (hb : Below B w w') : EnvB B w' := by
  obtain ⟨⟨⟨m, hm⟩, ht, h1, h2⟩, hB1, hB2, hB3, hw⟩ := h
  refine ⟨⟨⟨m, ?_⟩, var?_below hb Tryd.gPow hB2 ht, Nat.lt_of_lt_of_le h1 hb.size, Nat.lt_of_lt_of_le h2 hb.size⟩, hB1, hB2, hB3, fun j x hx => ?_⟩
  · rw [hb.cell (p := ⟨1, 0, none⟩) hB1]; exact hm
  · rw [hb.cell (p := ⟨0, j, none⟩) hB3]; exact hw j x hx
theorem below_of_grown {B b : Nat} {w w' : World} (h : w.grownBy w' (some b)) (hB : B ≤ b) (hw : B ≤ w.heap.size) : Below B w w' :=
  ⟨h.os, h.tape, h.output, h.size, fun k hk => h.block k (by omega) (fun e => by cases e; omega)⟩

theorem PSt.bad1 {T : TypeId} {b G : Nat} {p : Ps} {w : World} (h : PSt T b G p w) : w.cell? ⟨b, 1, none⟩ = some (.bool p.bad) := by
  obtain ⟨-, -, v, hv, -⟩ := h; rw [Lib.cell_of_heap hv]; rfl
theorem PSt.frz {T : TypeId} {b G : Nat} {p : Ps} {w : World} (h : PSt T b G p w) (j : Nat) : w.frozen? ⟨b, j, none⟩ = false := by
  obtain ⟨-, -, v, hv, -⟩ := h; exact Lib.frozen_of_heap hv j
theorem grown_tail {w w1 w2 : World} {row : Option Nat} (h : w.grownBy w1 row) (hb : Below w.heap.size w1 w2) : w.grownBy w2 row :=
  ⟨hb.os.trans h.os, hb.tape.trans h.tape, hb.output.trans h.output, Nat.le_trans h.size hb.size, fun k hk hr => (hb.block k hk).trans (h.block k hk hr)⟩
/-- The box of a result, laid ahead of a call on the parser. -/
theorem far_box {w w1 : World} {b : Nat} {x y : Value} {t : TypeId} (h : (w.alloc (.cells #[x, y] t)).grownBy w1 (some b)) (hb : b < w.heap.size) :
    w.heap.size + 1 ≤ w1.heap.size ∧ w1.cell? ⟨w.heap.size, 0, none⟩ = some x ∧ w1.cell? ⟨w.heap.size, 1, none⟩ = some y ∧ ∀ j, w1.frozen? ⟨w.heap.size, j, none⟩ = false := by
  have hne : some w.heap.size ≠ some b := fun e => by injection e; omega
  refine ⟨by have := h.size; simpa using this, ?_, ?_, fun j => ?_⟩
  · rw [h.cell_far ⟨w.heap.size, 0, none⟩ (by simp) hne, new_cell]; rfl
  · rw [h.cell_far ⟨w.heap.size, 1, none⟩ (by simp) hne, new_cell]; rfl
  · rw [h.frozen_far ⟨w.heap.size, j, none⟩ (by simp) hne]; exact World.frozen?_alloc_at _ _ _ _ rfl
theorem far_below {w1 w2 : World} {g : Nat} {x y : Value} (hb : Below w1.heap.size w1 w2) (hz : g + 1 ≤ w1.heap.size) (c0 : w1.cell? ⟨g, 0, none⟩ = some x) (c1 : w1.cell? ⟨g, 1, none⟩ = some y) (f : ∀ j, w1.frozen? ⟨g, j, none⟩ = false) :
    g + 1 ≤ w2.heap.size ∧ w2.cell? ⟨g, 0, none⟩ = some x ∧ w2.cell? ⟨g, 1, none⟩ = some y ∧ ∀ j, w2.frozen? ⟨g, j, none⟩ = false :=
  ⟨Nat.le_trans hz hb.size, (hb.cell (p := ⟨g, 0, none⟩) (by show g < _; omega)).trans c0, (hb.cell (p := ⟨g, 1, none⟩) (by show g < _; omega)).trans c1, fun j => (hb.frozen (p := ⟨g, j, none⟩) (by show g < _; omega)).trans (f j)⟩
theorem env_on {B b : Nat} {w w1 : World} {o : Obj} (he : EnvB B w) (h : (w.alloc o).grownBy w1 (some b)) (hB : B ≤ b) (hb : b < w.heap.size) : Env w1 :=
  ((he.keep ((Below.refl B w).alloc (by omega) o)).keep (below_of_grown h hB (by simp; omega))).1
theorem pfx_end {T : TypeId} {b G : Nat} {p : Ps} {w w1 w2 w3 : World} {o : Obj} (h1 : PSt T b G p w1) (h2 : (w.alloc o).grownBy w1 (some b)) (hb2 : Below w1.heap.size w1 w2) (hG : G ≤ w.heap.size) (hz : w.heap.size + 1 ≤ w1.heap.size) (hb3 : Below w.heap.size w2 w3) :
    PSt T b G p w3 ∧ w.grownBy w3 (some b) := by
  have h := (hb2.mono (by omega)).trans hb3
  exact ⟨h1.keep (h.mono hG), grown_tail ((World.grownBy_alloc w o _).trans h2) h⟩
theorem pfx_mid {T : TypeId} {b G : Nat} {p : Ps} {w w1 w2 : World} {o : Obj} (h1 : PSt T b G p w1) (h2 : (w.alloc o).grownBy w1 (some b)) (hb2 : Below w1.heap.size w1 w2) (hG : G ≤ w.heap.size) (hz : w.heap.size + 1 ≤ w1.heap.size) (o' : Obj) :
    PSt T b G p (w2.alloc o') ∧ w.grownBy (w2.alloc o') (some b) :=
  pfx_end h1 h2 hb2 hG hz ((Below.refl _ w2).alloc (by have := hb2.size; omega) o')
theorem pfx_fail {T : TypeId} {b G : Nat} {p : Ps} {w W : World} (q : PSt T b G p W ∧ w.grownBy W (some b)) (hG : G ≤ w.heap.size) (x y : Value) :
    PSt T b G p.fail (((W.setCell ⟨b, 1, none⟩ (.bool true)).setCell ⟨w.heap.size, 0, none⟩ x).setCell ⟨w.heap.size, 1, none⟩ y) ∧ w.grownBy (((W.setCell ⟨b, 1, none⟩ (.bool true)).setCell ⟨w.heap.size, 0, none⟩ x).setCell ⟨w.heap.size, 1, none⟩ y) (some b) := by
  obtain ⟨q3, q4⟩ := q.1.failed
  have hset := ((Below.refl w.heap.size (W.setCell ⟨b, 1, none⟩ (.bool true))).setCell (p := ⟨w.heap.size, 0, none⟩) (Nat.le_refl _) x).setCell (p := ⟨w.heap.size, 1, none⟩) (Nat.le_refl _) y
  exact ⟨q3.keep (hset.mono hG), grown_tail (q.2.trans q4) hset⟩

theorem pnumber_any (b G : Nat) (p : Ps) (w : World) (h : PSt 71 b G p w) :
    Calls Tryd.prog 78 #[.pointer (some ⟨b, 0, none⟩)] w (PPost 71 b G (.int .i64 (numVP p)) (numS p) w) := by
  have HA := Lib.hid (next_any b G p w h)
  have HN := Lib.hid (fun w => number_any (str (nxtV p)) 0 4294967295 w)
  rw [bytes_str] at HN
  clear h
  unfold strV at HA
  cases hn : numIn (nxtV p) 0 4294967295 with
  | some x =>
    have E : Hid (numS p = nxtS p ∧ numVP p = x) := Lib.hid (by unfold numS numVP; rw [hn]; exact ⟨rfl, rfl⟩)
    rw [hn] at HN
    simp only [numV, Option.getD_some, Option.isSome_some] at HN
    clear hn
    go_enter Tryd.func78, Tryd.ntmps78
    go_wp2_with fail
    refine HA.out.mono ?_
    rintro e w1 ⟨rfl, h1, h2⟩
    go_wp2_with fail
    refine (HN.out w1).mono ?_
    rintro e w2 ⟨rfl, rfl⟩
    go_wp2_with fail
    go_ret
    exact ⟨by rw [E.out.2]; rfl, by rw [E.out.1]; exact h1, h2⟩
  | none =>
    have E : Hid (numS p = (nxtS p).fail ∧ numVP p = 0) := Lib.hid (by unfold numS numVP; rw [hn]; exact ⟨rfl, rfl⟩)
    rw [hn] at HN
    simp only [numV, Option.getD_none, Option.isSome_none] at HN
    clear hn
    go_enter Tryd.func78, Tryd.ntmps78
    go_wp2_with fail
    refine HA.out.mono ?_
    rintro e w1 ⟨rfl, h1, h2⟩
    go_wp2_with fail
    refine (HN.out w1).mono ?_
    rintro e w2 ⟨rfl, rfl⟩
    have HF := Lib.hid h1.failed
    obtain ⟨-, -, v, hv, -⟩ := h1
    have c1 : w1.cell? ⟨b, 1, none⟩ = some (.bool (nxtS p).bad) := by rw [Lib.cell_of_heap hv]; rfl
    have f1 : w1.frozen? ⟨b, 1, none⟩ = false := Lib.frozen_of_heap hv 1
    clear hv
    go_wp2_with fail
    go_ret
    exact ⟨by rw [E.out.2]; rfl, by rw [E.out.1]; exact HF.out.1, h2.trans HF.out.2⟩

theorem rdnumber_any (b G : Nat) (p : Ps) (w : World) (h : PSt 75 b G p w) :
    Calls Tryd.prog 52 #[.pointer (some ⟨b, 0, none⟩)] w (PPost 75 b G (.int .i64 (numVP p)) (numS p) w) := by
  have HA := Lib.hid (rtake_any b G p w h)
  have HN := Lib.hid (fun w => rnumber_any (str (nxtV p)) 0 4294967295 w)
  rw [bytes_str] at HN
  clear h
  unfold strV at HA
  cases hn : numIn (nxtV p) 0 4294967295 with
  | some x =>
    have E : Hid (numS p = nxtS p ∧ numVP p = x) := Lib.hid (by unfold numS numVP; rw [hn]; exact ⟨rfl, rfl⟩)
    rw [hn] at HN
    simp only [numV, Option.getD_some, Option.isSome_some] at HN
    clear hn
    go_enter Tryd.func52, Tryd.ntmps52
    go_wp2_with fail
    refine HA.out.mono ?_
    rintro e w1 ⟨rfl, h1, h2⟩
    go_wp2_with fail
    refine (HN.out w1).mono ?_
    rintro e w2 ⟨rfl, rfl⟩
    go_wp2_with fail
    go_ret
    exact ⟨by rw [E.out.2]; rfl, by rw [E.out.1]; exact h1, h2⟩
  | none =>
    have E : Hid (numS p = (nxtS p).fail ∧ numVP p = 0) := Lib.hid (by unfold numS numVP; rw [hn]; exact ⟨rfl, rfl⟩)
    rw [hn] at HN
    simp only [numV, Option.getD_none, Option.isSome_none] at HN
    clear hn
    go_enter Tryd.func52, Tryd.ntmps52
    go_wp2_with fail
    refine HA.out.mono ?_
    rintro e w1 ⟨rfl, h1, h2⟩
    go_wp2_with fail
    refine (HN.out w1).mono ?_
    rintro e w2 ⟨rfl, rfl⟩
    have HF := Lib.hid h1.failed
    obtain ⟨-, -, v, hv, -⟩ := h1
    have c1 : w1.cell? ⟨b, 1, none⟩ = some (.bool (nxtS p).bad) := by rw [Lib.cell_of_heap hv]; rfl
    have f1 : w1.frozen? ⟨b, 1, none⟩ = false := Lib.frozen_of_heap hv 1
    clear hv
    go_wp2_with fail
    go_ret
    exact ⟨by rw [E.out.2]; rfl, by rw [E.out.1]; exact HF.out.1, h2.trans HF.out.2⟩

set_option maxHeartbeats 1000000 in
theorem pprefix_any (b G B : Nat) (p : Ps) (w : World) (h : PSt 71 b G p w) (he : EnvB B w) (hB : B ≤ b) (hs : p.short) :
    Calls Tryd.prog 76 #[.pointer (some ⟨b, 0, none⟩)] w (PPost 71 b G (PV (pfxV p).1 (pfxV p).2) (pfxS p) w) := by
  have hbG := h.1
  have hGw := h.2.1
  have hss : (str (nxtV p)).size ≤ 1000000000 := by rw [str_size]; exact nxtV_short hs
  have HP : Hid (∀ w, Env w → Calls Tryd.prog 86 #[.string (str (nxtV p))] w (PfxPost (pfxA (bytes (str (nxtV p)))) w)) := Lib.hid (fun w he => parsePrefix_any (str (nxtV p)) w he hss)
  rw [bytes_str] at HP
  have H := Lib.hid h
  have HE := Lib.hid he
  have HA := Lib.hid (fun w h => next_any b G p w h)
  unfold strV at HA
  clear h he hs hss
  cases hn : pfxA (nxtV p) with
  | some x =>
    obtain ⟨a, n⟩ := x
    have E : Hid (pfxS p = nxtS p ∧ pfxV p = (a, n)) := Lib.hid (by unfold pfxS pfxV; rw [hn]; exact ⟨rfl, rfl⟩)
    rw [hn] at HP
    clear hn
    go_enter Tryd.func76, Tryd.ntmps76
    go_wp2_with fail
    refine (HA.out _ (H.out.keep ((Below.refl _ w).alloc hGw _))).mono ?_
    rintro e w1 ⟨rfl, h1, h2⟩
    have H1 := Lib.hid h1
    have H2 := Lib.hid h2
    obtain ⟨hz1, c0, c1, f0⟩ := far_box h2 (by omega)
    clear h1 h2
    go_wp2_with fail
    refine (HP.out w1 (env_on HE.out H2.out hB (by omega))).mono ?_
    rintro e w2 ⟨rfl, hb2⟩
    obtain ⟨hz2, d0, d1, g0⟩ := far_below hb2 hz1 c0 c1 f0
    have HB2 := Lib.hid hb2
    clear hb2 c0 c1 f0
    have c0' := cell_alloc' hz2 d0
    have c1' := cell_alloc' hz2 d1
    have f0' := frozen_alloc' hz2 g0
    unfold PV
    simp only [Option.getD_some, Option.isSome_some]
    go_wp2_with fail
    refine bodyPost_ret (v := PV a n) (by simp [results, Tryd.results76, go_sem, PV, *]) rfl ⟨by rw [E.out.2], ?_⟩
    rw [E.out.1]
    have hG2 : G ≤ w2.heap.size := by omega
    refine pfx_end H1.out H2.out HB2.out hGw hz1 ?_
    exact (((Below.refl w.heap.size w2).alloc (by omega) _).setCell (p := ⟨w.heap.size, 0, none⟩) (Nat.le_refl _) _).setCell (p := ⟨w.heap.size, 1, none⟩) (Nat.le_refl _) _
  | none =>
    have E : Hid (pfxS p = (nxtS p).fail ∧ pfxV p = (0, 0)) := Lib.hid (by unfold pfxS pfxV; rw [hn]; exact ⟨rfl, rfl⟩)
    rw [hn] at HP
    clear hn
    go_enter Tryd.func76, Tryd.ntmps76
    go_wp2_with fail
    refine (HA.out _ (H.out.keep ((Below.refl _ w).alloc hGw _))).mono ?_
    rintro e w1 ⟨rfl, h1, h2⟩
    have H1 := Lib.hid h1
    have H2 := Lib.hid h2
    obtain ⟨hz1, c0, c1, f0⟩ := far_box h2 (by omega)
    clear h1 h2
    go_wp2_with fail
    refine (HP.out w1 (env_on HE.out H2.out hB (by omega))).mono ?_
    rintro e w2 ⟨rfl, hb2⟩
    obtain ⟨hz2, d0, d1, g0⟩ := far_below hb2 hz1 c0 c1 f0
    have HB2 := Lib.hid hb2
    have H3 := Lib.hid (fun o => pfx_mid H1.out H2.out hb2 hGw hz1 o)
    clear hb2 c0 c1 f0
    have c0' := cell_alloc' hz2 d0
    have c1' := cell_alloc' hz2 d1
    have f0' := frozen_alloc' hz2 g0
    have k1 : ∀ o, (w2.alloc o).cell? ⟨b, 1, none⟩ = some (.bool (nxtS p).bad) := fun o => (H3.out o).1.bad1
    have l1 : ∀ o, (w2.alloc o).frozen? ⟨b, 1, none⟩ = false := fun o => (H3.out o).1.frz 1
    unfold PV
    simp only [Option.getD_none, Option.isSome_none]
    go_wp2_with fail
    refine bodyPost_ret (v := PV 0 0) (by simp [results, Tryd.results76, go_sem, PV, *]) rfl ⟨by rw [E.out.2], ?_⟩
    rw [E.out.1]
    exact pfx_fail (H3.out _) hGw _ _

set_option maxHeartbeats 1000000 in
theorem rdprefix_any (b G B : Nat) (p : Ps) (w : World) (h : PSt 75 b G p w) (he : EnvB B w) (hB : B ≤ b) (hs : p.short) :
    Calls Tryd.prog 51 #[.pointer (some ⟨b, 0, none⟩)] w (PPost 75 b G (PV (pfxV p).1 (pfxV p).2) (pfxS p) w) := by
  have hbG := h.1
  have hGw := h.2.1
  have hss : (str (nxtV p)).size ≤ 1000000000 := by rw [str_size]; exact nxtV_short hs
  have HP : Hid (∀ w, Env w → Calls Tryd.prog 80 #[.string (str (nxtV p))] w (PfxPost (pfxA (bytes (str (nxtV p)))) w)) := Lib.hid (fun w he => readPrefix_any (str (nxtV p)) w hss)
  rw [bytes_str] at HP
  have H := Lib.hid h
  have HE := Lib.hid he
  have HA := Lib.hid (fun w h => rtake_any b G p w h)
  unfold strV at HA
  clear h he hs hss
  cases hn : pfxA (nxtV p) with
  | some x =>
    obtain ⟨a, n⟩ := x
    have E : Hid (pfxS p = nxtS p ∧ pfxV p = (a, n)) := Lib.hid (by unfold pfxS pfxV; rw [hn]; exact ⟨rfl, rfl⟩)
    rw [hn] at HP
    clear hn
    go_enter Tryd.func51, Tryd.ntmps51
    go_wp2_with fail
    refine (HA.out _ (H.out.keep ((Below.refl _ w).alloc hGw _))).mono ?_
    rintro e w1 ⟨rfl, h1, h2⟩
    have H1 := Lib.hid h1
    have H2 := Lib.hid h2
    obtain ⟨hz1, c0, c1, f0⟩ := far_box h2 (by omega)
    clear h1 h2
    go_wp2_with fail
    refine (HP.out w1 (env_on HE.out H2.out hB (by omega))).mono ?_
    rintro e w2 ⟨rfl, hb2⟩
    obtain ⟨hz2, d0, d1, g0⟩ := far_below hb2 hz1 c0 c1 f0
    have HB2 := Lib.hid hb2
    clear hb2 c0 c1 f0
    have c0' := cell_alloc' hz2 d0
    have c1' := cell_alloc' hz2 d1
    have f0' := frozen_alloc' hz2 g0
    unfold PV
    simp only [Option.getD_some, Option.isSome_some]
    go_wp2_with fail
    refine bodyPost_ret (v := PV a n) (by simp [results, Tryd.results51, go_sem, PV, *]) rfl ⟨by rw [E.out.2], ?_⟩
    rw [E.out.1]
    have hG2 : G ≤ w2.heap.size := by omega
    refine pfx_end H1.out H2.out HB2.out hGw hz1 ?_
    exact (((Below.refl w.heap.size w2).alloc (by omega) _).setCell (p := ⟨w.heap.size, 0, none⟩) (Nat.le_refl _) _).setCell (p := ⟨w.heap.size, 1, none⟩) (Nat.le_refl _) _
  | none =>
    have E : Hid (pfxS p = (nxtS p).fail ∧ pfxV p = (0, 0)) := Lib.hid (by unfold pfxS pfxV; rw [hn]; exact ⟨rfl, rfl⟩)
    rw [hn] at HP
    clear hn
    go_enter Tryd.func51, Tryd.ntmps51
    go_wp2_with fail
    refine (HA.out _ (H.out.keep ((Below.refl _ w).alloc hGw _))).mono ?_
    rintro e w1 ⟨rfl, h1, h2⟩
    have H1 := Lib.hid h1
    have H2 := Lib.hid h2
    obtain ⟨hz1, c0, c1, f0⟩ := far_box h2 (by omega)
    clear h1 h2
    go_wp2_with fail
    refine (HP.out w1 (env_on HE.out H2.out hB (by omega))).mono ?_
    rintro e w2 ⟨rfl, hb2⟩
    obtain ⟨hz2, d0, d1, g0⟩ := far_below hb2 hz1 c0 c1 f0
    have HB2 := Lib.hid hb2
    have H3 := Lib.hid (fun o => pfx_mid H1.out H2.out hb2 hGw hz1 o)
    clear hb2 c0 c1 f0
    have c0' := cell_alloc' hz2 d0
    have c1' := cell_alloc' hz2 d1
    have f0' := frozen_alloc' hz2 g0
    have k1 : ∀ o, (w2.alloc o).cell? ⟨b, 1, none⟩ = some (.bool (nxtS p).bad) := fun o => (H3.out o).1.bad1
    have l1 : ∀ o, (w2.alloc o).frozen? ⟨b, 1, none⟩ = false := fun o => (H3.out o).1.frz 1
    unfold PV
    simp only [Option.getD_none, Option.isSome_none]
    go_wp2_with fail
    refine bodyPost_ret (v := PV 0 0) (by simp [results, Tryd.results51, go_sem, PV, *]) rfl ⟨by rw [E.out.2], ?_⟩
    rw [E.out.1]
    exact pfx_fail (H3.out _) hGw _ _
end Go.Proofs.YtnhemjdmleilcaaDoor
