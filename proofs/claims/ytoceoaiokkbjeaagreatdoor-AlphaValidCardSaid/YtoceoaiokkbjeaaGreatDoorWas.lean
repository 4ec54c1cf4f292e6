/- The reference's CheckRouter, of a valid router. Conditions: the router lies in memory, addresses are numbers below 2^32. -/
import Derived.Test.YtoceoaiokkbjeaaGreatDoorWar
import Derived.Deep.DeepCutAuto
import Derived.Test.YtoceoaiokkbjeaaGreatDoorWap
import Derived.Test.YtoceoaiokkbjeaaGreatDoorWao
set_option maxHeartbeats 8000000
namespace Go.Proofs.YtoceoaiokkbjeaaGreatDoor
open Lib (hid)
open Go.RowKit
theorem if_ok {c : Bool} {a e : Int} (h : (if c then a else e) = 0) (he : e ≠ 0) : c = true ∧ a = 0 := by
 cases c with
 | true => exact ⟨rfl, h⟩
 | false => exact absurd h he
theorem if_no {c : Bool} {a e : Int} (h : (if c then e else a) = 0) (he : e ≠ 0) : c = false ∧ a = 0 := by
 cases c with
 | false => exact ⟨rfl, h⟩
 | true => exact absurd h he
theorem sta_ok {ifs : List If} {x : Sr} (h : staF ifs x = 0) : zBl x.pa x.pl = true ∧ zAg x.admin 1 255 = true ∧ zAg x.tag 0 65535 = true ∧ ((x.next ≠ 0 ∧ x.iface = [] ∧ x.discard = false ∧ idxF (hasA x.next) ifs 0 < 0) ∨ (x.next = 0 ∧ x.iface ≠ [] ∧ x.discard = false ∧ ∃ (i : Nat) (hi : i < ifs.length), idxF (fun y => y.name == x.iface) ifs 0 = (i : Int) ∧ ifs[i].len ≠ 0) ∨ (x.next = 0 ∧ x.iface = [] ∧ x.discard = true)) := by
 unfold staF at h
 obtain ⟨hr, h⟩ := if_ok h (by decide)
 unfold zIk at hr
 simp only [Bool.and_eq_true] at hr
 obtain ⟨⟨⟨⟨h1, h2⟩, h3⟩, h4⟩, h5⟩ := hr
 refine ⟨h1, h4, h5, ?_⟩
 unfold kindsL at h2
 by_cases hn : x.next = 0
 ·cases hi : x.iface with
  | nil =>
   rw [hn, hi] at h2
   cases hd : x.discard with
   | false => rw [hd] at h2; exact absurd h2 (by decide)
   | true => exact .inr (.inr ⟨hn, rfl, rfl⟩)
  | cons a b =>
   rw [hn, hi] at h2
   cases hd : x.discard with
   | true => rw [hd] at h2; exact absurd h2 (by simp [cntB])
   | false =>
   rw [hi] at h
   simp only [List.isEmpty_cons, Bool.false_eq_true, if_false] at h
   by_cases hx : idxF (fun y => y.name == a :: b) ifs 0 < 0
   ·rw [if_pos hx] at h; cases h
   rw [if_neg hx] at h
   obtain ⟨i, hii⟩ : ∃ i : Nat, idxF (fun y => y.name == a :: b) ifs 0 = (i : Int) := ⟨_, (Int.toNat_of_nonneg (by omega)).symm⟩
   have hil : i < ifs.length := by have := (idxF_bd (fun y => y.name == a :: b) ifs 0).2; omega
   have EL : lenAt ifs (a :: b) = ifs[i].len := by unfold lenAt; rw [hii, Int.toNat_natCast, List.getElem?_eq_getElem hil]; rfl
   rw [EL] at h
   refine .inr (.inl ⟨hn, by simp, rfl, i, hil, hii, fun h0 => ?_⟩)
   rw [if_pos h0] at h; cases h
 ·have hb : (x.next == 0) = false := by simpa using hn
  rw [hb, Bool.false_or] at h3
  rw [hb] at h2
  cases hi : x.iface with
  | cons a b => rw [hi] at h2; cases hd : x.discard <;> (rw [hd] at h2; exact absurd h2 (by simp [cntB]))
  | nil =>
   cases hd : x.discard with
   | true => rw [hi, hd] at h2; exact absurd h2 (by simp [cntB])
   | false => exact .inl ⟨hn, rfl, rfl, by simpa using h3⟩
theorem redF_ok {maps : List RMap} {into least most types : Int} {x : Rd} (h : redF maps into least most types x = 0) : zAg x.frm 1 5 = true ∧ (x.frm == into) = false ∧ zAg x.metric least most = true ∧ zAg x.tag 0 65535 = true ∧ zAg x.typ (min 1 types) types = true ∧ (x.map ≠ [] → decide (idxF (fun y => y.name == x.map) maps 0 < 0) = false) := by
 unfold redF at h
 obtain ⟨hr, h⟩ := if_ok h (by decide)
 simp only [Bool.and_eq_true, Bool.not_eq_true'] at hr
 obtain ⟨hl, -⟩ := if_no h (by decide)
 exact ⟨hr.1.1.1.1, hr.1.1.1.2, hr.1.1.2, hr.1.2, hr.2, zGc hl⟩
set_option maxRecDepth 100000 in
theorem rstatics_ok (r : Rt) (w : World) (B : Nat) (hB : B ≤ w.heap.size) (h : r.at w B) (hf : ∀ x ∈ r.stat, x.fit) (hz : statsE r.ifs r.stat = 0) : Calls Tryz.prog 27 #[.agg r.C] w fun e w' => e = .returned (.int .i64 0) ∧ Below w.heap.size w w' := by
 have HBB := hid hB
 have HR := hid h
 have HB := hid (RB.start r w)
 have HF := hid hf
 have HWI := hid zCg
 have hl := h.hstat
 have hlen := hl.len
 simp only [maxLen] at hlen
 obtain ⟨h8, hO⟩ := zGy (by decide) hz
 have HSI := hid h.hifs
 obtain ⟨A, c, hv, -⟩ := id hl
 have HL : Hid (∀ w', RB r w w' → w'.cell? ⟨w.heap.size, 7, none⟩ = some (.slice A r.stat.length c)) := hid (fun w' h => by rw [← hv]; exact h.h.cell 7)
 rw [hv] at hl
 generalize r.stat = l at *
 have HO := hid hO
 have HS := hid hl
 have cl := HL.out _ HB.out
 have d8 : ¬ ((16 : Int) < (l.length : Int)) := by omega
 clear h hf hz hO hl hv
 go_enter Tryz.func27, Tryz.ntmps27
 go_wp2_with fail
 clear cl d8
 go_loopg [3] l.length (fun gh ix wr => ∃ k : Nat, k + gh = l.length ∧ ix = .int .i64 k ∧ Hid (RB r w wr))
 case atStart => exact ⟨0, by omega, rfl, HB⟩
 case round =>
  clear HB
  obtain ⟨k, hk, rfl, HB⟩ := hrel
  have cl := HL.out wr HB.out
  by_cases hlt : k < l.length
  case neg =>
   have hkz : ¬ ((k : Int) < (l.length : Int)) := by omega
   go_wp2_with fail
   go_ret
   exact ⟨rfl, HB.out.b⟩
  have hkz : (k : Int) < (l.length : Int) := by omega
  obtain ⟨g, o, c', e', -, hg, R0⟩ := HS.out.elem (n := 7) (by decide) (fun _ => rfl) hlt
  injection e' with e1 e2 e3
  subst e1 e3
  have r1 := hid (zAh R0 (HB.out.b.mono HBB.out) hg)
  have FX := hid (HF.out _ (List.getElem_mem hlt))
  obtain ⟨n1, n2⟩ := HO.out k hlt
  generalize l[k] = x at r1 FX n1 n2
  have N2 := hid n2
  clear n2
  clear R0 e2
  go_upto_region 7 with (first | (refine zAa rfl 74 _ rfl rfl r1.out Tryz.rowSr Tryz.sizeSr ?_) | (refine zAe rfl 74 _ _ rfl rfl rfl (HasC.new wr _ _) rfl Tryz.sizeSr (Sr.one x) ?_; intro w5 hz1 hz2))
  have H5 : Hid (RBL r w 74 wr.heap.size x.C w5) := hid (let q := HB.out.keep (zAn hz2); ⟨q.h, q.b, hz1⟩)
  clear hz1 hz2 r1 HB cl
  generalize wr.heap.size = gx at H5 ⊢
  obtain ⟨k1, k2, k3, k4⟩ := sta_ok n1
  have HK := hid k4
  have FP := hid FX.out.1
  clear k4 n1 FX
  have hvd := fun W => zEw x.pa x.pl W FP.out
  rw [k1] at hvd
  unfold PV at hvd
  have HVD := hid hvd
  clear hvd k1
  obtain ⟨pa, pl, next, iface, discard, admin, tag⟩ := x
  dsimp only at HK k2 k3 HVD
  have CE : Hid (∀ W, RBL r w 74 gx (Sr.C ⟨pa, pl, next, iface, discard, admin, tag⟩) W → W.cell? ⟨gx, 2, none⟩ = some (.int .u32 (next : Int)) ∧ W.cell? ⟨gx, 3, none⟩ = some (.string (str iface)) ∧ W.cell? ⟨gx, 4, none⟩ = some (.bool discard) ∧ W.cell? ⟨gx, 5, none⟩ = some (.int .i64 admin) ∧ W.cell? ⟨gx, 6, none⟩ = some (.int .i64 tag)) := hid (fun W h => ⟨h.l.cell 2, h.l.cell 3, h.l.cell 4, h.l.cell 5, h.l.cell 6⟩)
  have x0 : w5.cell? ⟨gx, 0, none⟩ = some (.int .u32 (pa : Int)) := H5.out.l.cell 0
  have x1 : w5.cell? ⟨gx, 1, none⟩ = some (.int .i64 pl) := H5.out.l.cell 1
  have CF : Hid (∀ W, RBL r w 74 gx (Sr.C ⟨pa, pl, next, iface, discard, admin, tag⟩) W → W.cell? ⟨gx, 0, none⟩ = some (.int .u32 (pa : Int)) ∧ W.cell? ⟨gx, 1, none⟩ = some (.int .i64 pl) ∧ W.cell? ⟨gx, 5, none⟩ = some (.int .i64 admin)) := hid (fun W h => ⟨h.l.cell 0, h.l.cell 1, h.l.cell 5⟩)
  generalize Sr.C ⟨pa, pl, next, iface, discard, admin, tag⟩ = cs at H5 CE CF
  obtain ⟨x2, x3, x4, x5, x6⟩ := CE.out w5 H5.out
  have KD : (discard = false → (if next = 0 then (0 : Int) else 1) + (if iface = [] then 0 else 1) = 1) ∧ (discard = true → (if next = 0 then (0 : Int) else 1) + (if iface = [] then 0 else 1) = 0) := by
   rcases HK.out with ⟨q1, q2, q3, -⟩ | ⟨q1, q2, q3, -⟩ | ⟨q1, q2, q3⟩ <;> rw [q3] <;> simp [q1, q2]
  have KA : next ≠ 0 → iface = [] ∧ idxF (hasA next) r.ifs 0 < 0 := fun hn => by
   rcases HK.out with ⟨q1, q2, q3, q4⟩ | ⟨q1, q2, q3, -⟩ | ⟨q1, q2, q3⟩
   ·exact ⟨q2, q4⟩
   ·exact absurd q1 hn
   ·exact absurd q1 hn
  have KI : iface ≠ [] → ∃ (i : Nat) (hi : i < r.ifs.length), idxF (fun y => y.name == iface) r.ifs 0 = (i : Int) ∧ r.ifs[i].len ≠ 0 := fun hn => by
   rcases HK.out with ⟨q1, q2, q3, q4⟩ | ⟨q1, q2, q3, q4⟩ | ⟨q1, q2, q3⟩
   ·exact absurd q2 hn
   ·exact q4
   ·exact absurd q2 hn
  replace KD := hid KD
  replace KA := hid KA
  replace KI := hid KI
  have tni := zAb ([] : List UInt8)
  have tne : (str ([] : List UInt8)).toList.isEmpty = true := by rw [zAb]; rfl
  clear HK
  go_upto_if 26 with fail
  go_cut [5] (fun v wx => v = .int .i64 (if next = 0 then 0 else 1) ∧ RBL r w 74 gx cs wx)
  case first =>
   by_cases hn : next = 0
   ·rw [hn] at x2
    have v1 : ((next : Int) != 0) = false := by rw [hn]; rfl
    go_wp2_with fail
    go_meet
    exact ⟨by rw [if_pos hn], H5.out⟩
   ·have v1 : ((next : Int) != 0) = true := by simp; omega
    go_wp2_with fail
    go_meet
    exact ⟨by rw [if_neg hn], H5.out⟩
  case rest =>
  obtain ⟨hv5, h5⟩ := hcut
  subst hv5
  replace H5 := hid h5
  clear h5 x0 x1 x2 x3 x4 x5 x6
  obtain ⟨x2, x3, x4, x5, x6⟩ := CE.out _ H5.out
  have B8 : (if next = 0 then (0 : Int) else 1) = 0 ∨ (if next = 0 then (0 : Int) else 1) = 1 := by split <;> simp
  generalize (if next = 0 then (0 : Int) else 1) = n8 at KD B8 ⊢
  go_upto_if 31 with fail
  go_cut [5] (fun v wx => v = .int .i64 (n8 + (if iface = [] then 0 else 1)) ∧ RBL r w 74 gx cs wx)
  case first =>
   by_cases hn : iface = []
   ·have v1 : (str iface).toList.isEmpty = true := by rw [str_isE, hn]; rfl
    rw [v1, Bool.not_true]
    clear v1
    go_wp2_with fail
    go_meet
    exact ⟨by rw [if_pos hn]; simp, H5.out⟩
   ·obtain ⟨i1, i2, i3⟩ := zCv hn
    have i4 : (str iface).toList.isEmpty = false := by rw [str_isE]; exact i1
    rw [i4, Bool.not_false]
    go_wp2_with fail
    go_meet
    exact ⟨by rw [if_neg hn], H5.out⟩
  case rest =>
  obtain ⟨hv5, h5⟩ := hcut
  subst hv5
  replace H5 := hid h5
  clear h5 x2 x3 x4 x5 x6
  obtain ⟨x2, x3, x4, x5, x6⟩ := CE.out _ H5.out
  have B9 : (n8 + (if iface = [] then (0 : Int) else 1)) = 0 ∨ (n8 + (if iface = [] then (0 : Int) else 1)) = 1 := by
   cases discard with
   | false => exact .inr (KD.out.1 rfl)
   | true => exact .inl (KD.out.2 rfl)
  generalize (n8 + (if iface = [] then (0 : Int) else 1)) = n9 at KD B9 ⊢
  go_upto_if 35 with fail
  go_cut [5] (fun v wx => v = .int .i64 1 ∧ RBL r w 74 gx cs wx)
  case first =>
   cases discard with
   | false =>
    have q := KD.out.1 rfl
    go_wp2_with fail
    go_meet
    exact ⟨by first | rfl | rw [q], H5.out⟩
   | true =>
    have q := KD.out.2 rfl
    go_wp2_with fail
    go_meet
    exact ⟨by first | rfl | (rw [q]; rfl), H5.out⟩
  case rest =>
  obtain ⟨hv5, h5⟩ := hcut
  subst hv5
  replace H5 := hid h5
  clear h5 x2 x3 x4 x5 x6 B8 B9 KD
  go_upto_region 14 with fail
  go_cut [69] (fun v wx => v = .bool false ∧ RBL r w 74 gx cs wx)
  case first =>
   obtain ⟨x0, x1, -⟩ := CF.out _ H5.out
   have ADR := hid (fun W (h : RBL r w 74 gx cs W) => raddress_any r next W B (HR.out.below (h.b.mono HBB.out)) (Nat.le_trans HBB.out h.b.size))
   go_wp2_with fail
   refine (HVD.out _).mono ?_
   rintro e w6 ⟨rfl, hb⟩
   have H6 := hid (H5.out.keep hb)
   clear hb x0 x1
   obtain ⟨x2, x3, x4, x5, x6⟩ := CE.out w6 H6.out
   by_cases hn : next = 0
   ·rw [hn] at x2
    have v1 : ((next : Int) != 0) = false := by rw [hn]; rfl
    go_wp2_with (go_at_call 20; refine (HWI.out _ _ _ _).mono ?_; rintro e w' ⟨rfl, rfl⟩)
    go_meet
    exact ⟨rfl, H6.out⟩
   ·have v1 : ((next : Int) != 0) = true := by simp; omega
    have q2 := (KA.out hn).2
    go_wp2_with (first | (refine zAa rfl 41 _ rfl rfl H6.out.h.range Tryz.rowRt Tryz.sizeRt ?_) | (refine zAk (by rfl) (zAa rfl 41 _ rfl rfl H6.out.h.range Tryz.rowRt Tryz.sizeRt ?_)))
    refine (ADR.out w6 H6.out).mono ?_
    rintro e wz ⟨rfl, hb⟩
    have HZ := hid (H6.out.keep hb)
    clear hb x2 x3 x4 x5 x6 ADR
    have q4 : decide ((0 : Int) ≤ idxF (hasA next) r.ifs 0) = false := decide_eq_false (by omega)
    generalize idxF (hasA next) r.ifs 0 = ix at q4 ⊢
    clear q2
    obtain ⟨x2, x3, x4, x5, x6⟩ := CE.out wz HZ.out
    go_wp2_with (go_at_call 20; refine (HWI.out _ _ _ _).mono ?_; rintro e w' ⟨rfl, rfl⟩)
    go_meet
    exact ⟨by first | rfl | rw [q4], HZ.out⟩
  case rest =>
  obtain ⟨hv5, h5⟩ := hcut
  subst hv5
  replace H5 := hid h5
  clear h5 HVD KA k2 k3
  obtain ⟨x2, x3, x4, x5, x6⟩ := CE.out _ H5.out
  go_upto_if 72 with fail
  go_cut [] (fun wx => RBL r w 74 gx cs wx)
  case first =>
   by_cases hn : iface = []
   ·have v1 : (str iface).toList.isEmpty = true := by rw [str_isE, hn]; rfl
    rw [v1, Bool.not_true]
    clear v1
    go_wp2_with fail
    go_meet
    exact H5.out
   ·obtain ⟨i1, i2, i3⟩ := zCv hn
    have i4 : (str iface).toList.isEmpty = false := by rw [str_isE]; exact i1
    rw [i4, Bool.not_false]
    obtain ⟨i, hi, q2, q3⟩ := KI.out hn
    have LKI := hid (fun W (h : RBL r w 74 gx cs W) => rlookIf_any r iface W B (HR.out.below (h.b.mono HBB.out)) (Nat.le_trans HBB.out h.b.size))
    go_wp2_with (first | (refine zAa rfl 41 _ rfl rfl H5.out.h.range Tryz.rowRt Tryz.sizeRt ?_) | (refine zAk (by rfl) (zAa rfl 41 _ rfl rfl H5.out.h.range Tryz.rowRt Tryz.sizeRt ?_)))
    refine (LKI.out _ H5.out).mono ?_
    rintro e wz ⟨rfl, hb⟩
    have HZ := hid (H5.out.keep hb)
    clear hb x2 x3 x4 x5 x6 LKI H5 i1 i2 i3 i4
    rw [q2]
    obtain ⟨gi, oi, ci, ei, -, hgi, RI⟩ := HSI.out.elem (n := 12) (by decide) (fun _ => rfl) hi
    have cli : wz.cell? ⟨gi, oi + i * 12 + 2, none⟩ = some (.int .i64 r.ifs[i].len) := zAh RI (HZ.out.b.mono HBB.out) hgi 2 _ rfl
    have csi : wz.cell? ⟨w.heap.size, 2, none⟩ = some (.slice (some ⟨gi, oi, none⟩) r.ifs.length ci) := by rw [← ei]; exact HZ.out.h.cell 2
    have hiz : (i : Int) < (r.ifs.length : Int) := by omega
    have hlm : r.ifs.length ≤ 9223372036854775807 := by have := HSI.out.len; simp only [maxLen] at this; omega
    have dz : (r.ifs[i].len == 0) = false := by simpa using q3
    clear RI ei q2
    generalize r.ifs[i].len = li at cli dz
    go_wp2_with fail
    go_meet
    exact HZ.out
  case rest =>
  have HZ := hid hcut
  clear hcut H5 KI x2 x3 x4 x5 x6
  go_wp2_with fail
  go_loopg [7] k (fun gh ix wq => ∃ j : Nat, j + gh = k ∧ ix = .int .i64 j ∧ Hid (RBL r w 74 gx cs wq))
  case atStart => exact ⟨0, by omega, rfl, HZ⟩
  case round =>
   clear HZ
   obtain ⟨j, hj, rfl, HQ⟩ := hrel
   have cl := HL.out wr ⟨HQ.out.h, HQ.out.b⟩
   by_cases hjl : j < k
   case pos =>
    have hjn : j < l.length := by omega
    have hjz : (j : Int) < (k : Int) := by omega
    have hjm : (j : Int) < (l.length : Int) := by omega
    obtain ⟨g', o', c'', e', -, hg', R0⟩ := HS.out.elem (n := 7) (by decide) (fun _ => rfl) hjn
    injection e' with e1 e2 e3
    injection e1 with e1
    injection e1 with e1 e4
    subst e1 e4
    have NE := N2.out j hjn hjl
    have YA : Hid (∀ W, RBL r w 74 gx cs W → W.cell? ⟨g, o + j * 7, none⟩ = some (.int .u32 (l[j].pa : Int)) ∧ W.cell? ⟨g, o + j * 7 + 1, none⟩ = some (.int .i64 l[j].pl) ∧ W.cell? ⟨g, o + j * 7 + 5, none⟩ = some (.int .i64 l[j].admin)) := hid (fun W h => have hb := h.b.mono HBB.out; ⟨(hb.cell (p := ⟨g, o + j * 7, none⟩) hg').trans (R0 0 _ rfl), (hb.cell (p := ⟨g, o + j * 7 + 1, none⟩) hg').trans (R0 1 _ rfl), (hb.cell (p := ⟨g, o + j * 7 + 5, none⟩) hg').trans (R0 5 _ rfl)⟩)
    unfold zCq at NE
    dsimp only at NE
    generalize l[j] = y at YA NE
    have qe : ∀ w, (binOp .eql 72 (.agg #[.int .u32 (y.pa : Int), .int .i64 y.pl]) (.agg #[.int .u32 (pa : Int), .int .i64 pl])).run Tryz.prog w = .ok (.bool (decide (y.pa = pa ∧ y.pl = pl))) w := fun w => zFr y.pa pa y.pl pl w
    have gp := Tryz.pfxGuard
    generalize decide (y.pa = pa ∧ y.pl = pl) = bp at qe NE
    cases bp
    case' false => clear NE
    case' true => simp only [Bool.true_and] at NE
    all_goals
     clear R0 e2 e3
     go_wp2_with fail
     refine zEm (fun W => RBL r w 74 gx cs W) (by kernel_rfl) (by kernel_rfl) (HQ.out.keep (zAw wr)) ?_
     repeat
      (first
       | (refine zIw ?_ ?_; (· rfl))
       | (refine zHl (v := ?_) ?_ ?_ ?_; rotate_left; (· rfl); (· (intro W hW; obtain ⟨y0, y1, y5⟩ := YA.out W hW; obtain ⟨x0, x1, x5⟩ := CF.out W hW; have cl := HL.out W ⟨hW.h, hW.b⟩; go_simp <;> rfl))))
      simp only [Act.put, List.setIfInBounds_toArray, List.set_cons_zero, List.set_cons_succ]
     refine zJm (fun wq hS => ?_)
     have HZ := hid hS
     clear hS YA HQ cl
     go_wp2_with fail
     go_roundg (k - (j + 1))
     case measure => omega
     case rel => exact ⟨j + 1, by omega, by go_num, HZ⟩
   have hjz : ¬ ((j : Int) < (k : Int)) := by omega
   go_wp2_with fail
   go_roundg (l.length - (k + 1))
   case measure => omega
   case rel => exact ⟨k + 1, by omega, by go_num, hid ⟨HQ.out.h, HQ.out.b⟩⟩
set_option maxRecDepth 100000 in
theorem zKa (r : Rt) (l : List Rd) (v : Value) (into least most types : Int) (ht : into = 3 ∧ types = 2 ∨ into ≠ 3 ∧ types = 0) (w : World) (B : Nat) (hB : B ≤ w.heap.size) (h : r.at w B) (hl : SlV w B 5 Rd.C v l) (hz : redE r.maps into least most types l = 0) : Calls Tryz.prog 54 #[.agg r.C, v, .int .i64 into, .int .i64 least, .int .i64 most] w fun e w' => e = .returned (.int .i64 0) ∧ Below w.heap.size w w' := by
 have HBB := hid hB
 have HR := hid h
 have HB := hid (RB.start r w)
 have HWI := hid zCg
 have hlen := hl.len
 simp only [maxLen] at hlen
 obtain ⟨h8, hO⟩ := zGy (by decide) hz
 obtain ⟨A, c, rfl, -⟩ := id hl
 have HO := hid hO
 have HS := hid hl
 have HT := hid ht
 have d8 : ¬ ((4 : Int) < (l.length : Int)) := by omega
 clear h hz hO hl ht
 go_enter Tryz.func54, Tryz.ntmps54
 go_wp2_with fail
 clear d8
 go_loopg [11] l.length (fun gh ix wr => ∃ k : Nat, k + gh = l.length ∧ ix = .int .i64 k ∧ Hid (RB r w wr))
 case atStart => exact ⟨0, by omega, rfl, HB⟩
 case round =>
  clear HB
  obtain ⟨k, hk, rfl, HB⟩ := hrel
  by_cases hlt : k < l.length
  case neg =>
   have hkz : ¬ ((k : Int) < (l.length : Int)) := by omega
   go_wp2_with fail
   go_ret
   exact ⟨rfl, HB.out.b⟩
  have hkz : (k : Int) < (l.length : Int) := by omega
  obtain ⟨g, o, c', e', -, hg, R0⟩ := HS.out.elem (n := 5) (by decide) (fun _ => rfl) hlt
  injection e' with e1 e2 e3
  subst e1 e3
  have r1 := hid (zAh R0 (HB.out.b.mono HBB.out) hg)
  obtain ⟨n1, n2⟩ := HO.out k hlt
  generalize l[k] = x at r1 n1 n2
  have N2 := hid n2
  clear n2
  clear R0 e2
  go_upto_region 7 with (first | (refine zAa rfl 151 _ rfl rfl r1.out Tryz.rowRd Tryz.sizeRd ?_) | (refine zAe rfl 151 _ _ rfl rfl rfl (HasC.new wr _ _) rfl Tryz.sizeRd (Rd.one x) ?_; intro w5 hz1 hz2))
  have H5 : Hid (RBL r w 151 wr.heap.size x.C w5) := hid (let q := HB.out.keep (zAn hz2); ⟨q.h, q.b, hz1⟩)
  clear hz1 hz2 r1 HB
  generalize wr.heap.size = gx at H5 ⊢
  obtain ⟨k1, k2, k3, k4, k5, k6⟩ := redF_ok n1
  have HM := hid k6
  clear k6 n1
  obtain ⟨frm, metric, tag, map, typ⟩ := x
  dsimp only at HM k1 k2 k3 k4 k5
  have x0 : w5.cell? ⟨gx, 0, none⟩ = some (.int .i64 frm) := H5.out.l.cell 0
  have x1 : w5.cell? ⟨gx, 1, none⟩ = some (.int .i64 metric) := H5.out.l.cell 1
  have x2 : w5.cell? ⟨gx, 2, none⟩ = some (.int .i64 tag) := H5.out.l.cell 2
  have x3 : w5.cell? ⟨gx, 3, none⟩ = some (.string (str map)) := H5.out.l.cell 3
  have x4 : w5.cell? ⟨gx, 4, none⟩ = some (.int .i64 typ) := H5.out.l.cell 4
  have TY : (into = 3 ∧ (typ = 1 ∨ typ = 2)) ∨ ((into == 3) = false ∧ typ = 0) := by
   unfold zAg at k5
   simp only [Bool.and_eq_true, decide_eq_true_eq] at k5
   rcases HT.out with ⟨a1, a2⟩ | ⟨a1, a2⟩
   ·subst a2; exact .inl ⟨a1, by omega⟩
   ·subst a2; exact .inr ⟨by simpa using a1, by omega⟩
  have IN : (into != 3) = !(into == 3) := rfl
  clear k5
  have MP : (map = [] ∧ (str map).toList = []) ∨ (map ≠ [] ∧ ((str map).toList == []) = false ∧ ((str map).toList != []) = true ∧ decide (idxF (fun y => y.name == map) r.maps 0 < 0) = false) := by
   by_cases hm : map = []
   ·exact .inl ⟨hm, by rw [hm, zAb]⟩
   ·exact .inr ⟨hm, (zCv hm).2.1, (zCv hm).2.2, HM.out hm⟩
  have LK := hid (fun W (h : RBL r w 151 gx (Rd.C ⟨frm, metric, tag, map, typ⟩) W) => zGv r map W B (HR.out.below (h.b.mono HBB.out)) (Nat.le_trans HBB.out h.b.size))
  have CF : Hid (∀ W, RBL r w 151 gx (Rd.C ⟨frm, metric, tag, map, typ⟩) W → W.cell? ⟨gx, 0, none⟩ = some (.int .i64 frm)) := hid (fun W h => h.l.cell 0)
  have CG : Hid (∀ W, RBL r w 151 gx (Rd.C ⟨frm, metric, tag, map, typ⟩) W → W.cell? ⟨gx, 3, none⟩ = some (.string (str map))) := hid (fun W h => h.l.cell 3)
  generalize Rd.C ⟨frm, metric, tag, map, typ⟩ = cs at H5 LK CF CG
  clear HT
  go_upto_region 9 with (go_at_call 20; refine (HWI.out _ _ _ _).mono ?_; rintro e w' ⟨rfl, rfl⟩)
  go_cut [71] (fun v wx => v = .bool false ∧ RBL r w 151 gx cs wx)
  case first =>
   rcases TY with ⟨rfl, rfl | rfl⟩ | ⟨t1, rfl⟩
   case' inr => rw [t1] at IN
   all_goals
    go_wp2_with fail
    go_meet
    exact ⟨rfl, H5.out⟩
  case rest =>
  obtain ⟨hv5, h5⟩ := hcut
  subst hv5
  replace H5 := hid h5
  clear h5 TY IN x0 x1 x2 x3 x4
  have CM := hid (CG.out _ H5.out)
  go_upto_region 11 with fail
  go_cut [81] (fun v wx => v = .bool false ∧ RBL r w 151 gx cs wx)
  case first =>
   have x3 := CM.out
   rcases MP with ⟨rfl, m2⟩ | ⟨m1, m2, m3, m4⟩
   ·go_wp2_with fail
    go_meet
    exact ⟨rfl, H5.out⟩
   ·go_wp2_with (first | (refine zAa rfl 41 _ rfl rfl H5.out.h.range Tryz.rowRt Tryz.sizeRt ?_) | (refine zAk (by rfl) (zAa rfl 41 _ rfl rfl H5.out.h.range Tryz.rowRt Tryz.sizeRt ?_)))
    with_reducible refine (LK.out _ H5.out).mono ?_
    rintro e wz ⟨rfl, hb⟩
    have HZ := hid (H5.out.keep hb)
    clear hb x3 CM
    go_wp2_with fail
    go_meet
    exact ⟨rfl, HZ.out⟩
  case rest =>
  obtain ⟨hv5, h5⟩ := hcut
  subst hv5
  have HZ := hid h5
  clear h5 H5 MP LK CM CG
  go_wp2_with fail
  go_loopg [13] k (fun gh ix wq => ∃ j : Nat, j + gh = k ∧ ix = .int .i64 j ∧ Hid (RBL r w 151 gx cs wq))
  case atStart => exact ⟨0, by omega, rfl, HZ⟩
  case round =>
   clear HZ
   obtain ⟨j, hj, rfl, HQ⟩ := hrel
   by_cases hjl : j < k
   case pos =>
    have hjn : j < l.length := by omega
    have hjz : (j : Int) < (k : Int) := by omega
    have hjm : (j : Int) < (l.length : Int) := by omega
    obtain ⟨g', o', c'', e', -, hg', R0⟩ := HS.out.elem (n := 5) (by decide) (fun _ => rfl) hjn
    injection e' with e1 e2 e3
    injection e1 with e1
    injection e1 with e1 e4
    subst e1 e4
    have NE := N2.out j hjn hjl
    have y0 : wr.cell? ⟨g, o + j * 5, none⟩ = some (.int .i64 l[j].frm) := zAh R0 (HQ.out.b.mono HBB.out) hg' 0 _ rfl
    have x0 := CF.out wr HQ.out
    unfold zDg at NE
    dsimp only at NE
    generalize l[j].frm = yf at y0 NE
    all_goals
     clear R0 e2 e3
     go_wp2_with fail
     go_still (by kernel_rfl)
     go_wp2_with fail
     go_roundg (k - (j + 1))
     case measure => omega
     case rel => exact ⟨j + 1, by omega, by go_num, hid (HQ.out.keep (zAw wr))⟩
   have hjz : ¬ ((j : Int) < (k : Int)) := by omega
   go_wp2_with fail
   go_roundg (l.length - (k + 1))
   case measure => omega
   case rel => exact ⟨k + 1, by omega, by go_num, hid ⟨HQ.out.h, HQ.out.b⟩⟩
theorem lnk_ok {r : Rt} (h : lnkE r = 0) : (r.lsOn = false ∧ r.lsAdmin = 0 ∧ r.ranges.length = 0 ∧ r.lsRed.length = 0) ∨ (r.lsOn = true ∧ zAg r.lsAdmin 1 255 = true ∧ pairE 4 arF zCj 6 r.ranges = 0 ∧ redE r.maps 3 0 16777215 2 r.lsRed = 0) := by
 unfold lnkE at h
 cases ho : r.lsOn with
 | true =>
  rw [ho] at h
  simp only [if_true] at h
  obtain ⟨h1, h2⟩ := if_ok h (by decide)
  obtain ⟨h3, h4⟩ := zGp h2
  exact .inr ⟨rfl, h1, h3, h4⟩
 | false =>
  rw [ho] at h
  simp only [Bool.false_eq_true, if_false] at h
  obtain ⟨h1, -⟩ := if_no (a := 0) h (by decide)
  simp at h1
  exact .inl ⟨rfl, by simp_all, by simp_all, by simp_all⟩
theorem dv_ok {r : Rt} (h : dvE r = 0) : (r.dvOn = false ∧ r.dvAdmin = 0 ∧ r.dvIn = [] ∧ r.dvOut = [] ∧ r.dvRed.length = 0) ∨ (r.dvOn = true ∧ zAg r.dvAdmin 1 255 = true ∧ (r.dvIn ≠ [] → decide (idxF (fun y => y.name == r.dvIn) r.lists 0 < 0) = false) ∧ (r.dvOut ≠ [] → decide (idxF (fun y => y.name == r.dvOut) r.lists 0 < 0) = false) ∧ redE r.maps 4 1 15 0 r.dvRed = 0) := by
 unfold dvE at h
 cases ho : r.dvOn with
 | true =>
  rw [ho] at h
  simp only [if_true] at h
  obtain ⟨h1, h2⟩ := if_ok h (by decide)
  obtain ⟨h3, h4⟩ := zGp h2
  unfold dnF at h3
  obtain ⟨h5, -⟩ := if_no (a := 0) h3 (by decide)
  rw [Bool.or_eq_false_iff] at h5
  exact .inr ⟨rfl, h1, zGc h5.1, zGc h5.2, h4⟩
 | false =>
  rw [ho] at h
  simp only [Bool.false_eq_true, if_false] at h
  obtain ⟨h1, -⟩ := if_no (a := 0) h (by decide)
  simp at h1
  exact .inl ⟨rfl, by simp_all, by simp_all, by simp_all, by simp_all⟩
theorem ar_ok {x : AR} (h : arF x = 0) : zAg x.area 0 255 = true ∧ zBl x.pa x.pl = true := by
 unfold arF at h
 simpa using (if_ok h (by decide)).1
set_option maxRecDepth 100000 in
theorem rlink_ok (r : Rt) (w : World) (B : Nat) (hB : B ≤ w.heap.size) (h : r.at w B) (hf : ∀ x ∈ r.ranges, x.fit) (hz : lnkE r = 0) : Calls Tryz.prog 28 #[.agg r.C] w fun e w' => e = .returned (.int .i64 0) ∧ Below w.heap.size w w' := by
 have HBB := hid hB
 have H0 := RB.start r w
 have HR := hid h
 have HWI := hid zCg
 have HF := hid hf
 have hl := h.hranges
 have hlen := hl.len
 simp only [maxLen] at hlen
 obtain ⟨A, c, hv, -⟩ := id hl
 obtain ⟨A2, c2, hv2, -⟩ := id h.hlsRed
 have HLR := h.hlsRed
 rw [hv2] at HLR
 rw [hv] at hl
 replace HLR := hid HLR
 have HS := hid hl
 have HZR := hid hz
 clear hf hl hz
 have HO : (#[.bool r.lsOn, .int .i64 r.lsAdmin, .slice A r.ranges.length c, .slice A2 r.lsRed.length c2] : Array Value).all (·.oneCell') = true := by
  rw [Array.all_eq_true_iff_forall_mem]
  intro v hv
  simp only [List.mem_toArray, List.mem_cons, List.not_mem_nil, or_false] at hv
  rcases hv with rfl | rfl | rfl | rfl <;> rfl
 have HSh := hid (H0.h.subM 8 #[.bool r.lsOn, .int .i64 r.lsAdmin, .slice A r.ranges.length c, .slice A2 r.lsRed.length c2] (fun j hj => by
  have hj' : j < 4 := hj
  rcases (show j = 0 ∨ j = 1 ∨ j = 2 ∨ j = 3 by omega) with rfl | rfl | rfl | rfl <;> first | rfl | (show some _ = some _; simp only [Option.some.injEq]; assumption)))
 have H0h := hid H0
 clear H0 hv hv2 h hB
 go_enter Tryz.func28, Tryz.ntmps28
 go_upto_region 2 with (refine zAa rfl 31 _ rfl rfl HSh.out Tryz.rowLS Tryz.sizeLS ?_)
 have H5 : Hid (RBL r w 31 (w.alloc (.cells r.C 41)).heap.size #[.bool r.lsOn, .int .i64 r.lsAdmin, .slice A r.ranges.length c, .slice A2 r.lsRed.length c2] ((w.alloc (.cells r.C 41)).alloc (.cells #[.bool r.lsOn, .int .i64 r.lsAdmin, .slice A r.ranges.length c, .slice A2 r.lsRed.length c2] 31))) := hid ⟨(H0h.out.keep ((Below.refl _ _).alloc (Nat.le_refl _) _)).h, (H0h.out.keep ((Below.refl _ _).alloc (Nat.le_refl _) _)).b, HasC.new _ _ _⟩
 clear H0h HSh HO
 generalize hw5 : (w.alloc (.cells r.C 41)).alloc (.cells #[.bool r.lsOn, .int .i64 r.lsAdmin, .slice A r.ranges.length c, .slice A2 r.lsRed.length c2] 31) = w5 at H5 ⊢
 clear hw5
 rw [show (w.alloc (.cells r.C 41)).heap.size = w.heap.size + 1 from by simp] at H5
 generalize w.heap.size + 1 = gl at H5 ⊢
 have lc0 : w5.cell? ⟨gl, 0, none⟩ = some (.bool r.lsOn) := H5.out.l.cell 0
 have lc1 : w5.cell? ⟨gl, 1, none⟩ = some (.int .i64 r.lsAdmin) := H5.out.l.cell 1
 have lc2 : w5.cell? ⟨gl, 2, none⟩ = some (.slice A r.ranges.length c) := H5.out.l.cell 2
 have lc3 : w5.cell? ⟨gl, 3, none⟩ = some (.slice A2 r.lsRed.length c2) := H5.out.l.cell 3
 rcases lnk_ok HZR.out with ⟨o1, o2, o3, o4⟩ | ⟨o1, o2, o3, o4⟩
 ·rw [o1] at lc0
  rw [o2] at lc1
  rw [o3] at lc2
  rw [o4] at lc3
  clear HR HF HS HLR
  go_wp2_with fail
  go_ret
  exact ⟨rfl, H5.out.b⟩
 rw [o1] at lc0
 have HRD := hid o4
 obtain ⟨h8, hO⟩ := zGy (by decide) o3
 have HO := hid hO
 have CL : Hid (∀ W, RBL r w 31 gl (#[.bool r.lsOn, .int .i64 r.lsAdmin, .slice A r.ranges.length c, .slice A2 r.lsRed.length c2]) W → W.cell? ⟨gl, 2, none⟩ = some (.slice A r.ranges.length c) ∧ W.cell? ⟨gl, 3, none⟩ = some (.slice A2 r.lsRed.length c2)) := hid (fun W h => ⟨h.l.cell 2, h.l.cell 3⟩)
 generalize (#[.bool r.lsOn, .int .i64 r.lsAdmin, .slice A r.ranges.length c, .slice A2 r.lsRed.length c2] : Array Value) = cs at H5 CL
 have d8 : ¬ ((4 : Int) < (r.ranges.length : Int)) := by omega
 clear hO o1 o3 o4 HZR
 generalize r.ranges = l at *
 go_wp2_with (go_at_call 20; refine (HWI.out _ _ _ _).mono ?_; rintro e w' ⟨rfl, rfl⟩)
 clear d8 o2 lc0 lc1 lc2 lc3
 go_loopg [4] l.length (fun gh ix wr => ∃ k : Nat, k + gh = l.length ∧ ix = .int .i64 k ∧ Hid (RBL r w 31 gl cs wr))
 case atStart => exact ⟨0, by omega, rfl, H5⟩
 case round =>
  clear H5
  obtain ⟨k, hk, rfl, HB⟩ := hrel
  obtain ⟨cl, cm⟩ := CL.out wr HB.out
  by_cases hlt : k < l.length
  case neg =>
   have hkz : ¬ ((k : Int) < (l.length : Int)) := by omega
   go_wp2_with (first | (refine zAa rfl 41 _ rfl rfl HB.out.h.range Tryz.rowRt Tryz.sizeRt ?_) | (refine zAk (by rfl) (zAa rfl 41 _ rfl rfl HB.out.h.range Tryz.rowRt Tryz.sizeRt ?_)))
   with_reducible refine (zKa r r.lsRed (.slice A2 r.lsRed.length c2) 3 0 16777215 2 (.inl ⟨rfl, rfl⟩) wr B (Nat.le_trans HBB.out HB.out.b.size) (HR.out.below (HB.out.b.mono HBB.out)) (HLR.out.below (HB.out.b.mono HBB.out)) HRD.out).mono ?_
   rintro e w7 ⟨rfl, hb⟩
   have H7 := hid (HB.out.keep hb)
   clear hb
   go_wp2_with fail
   go_ret
   exact ⟨rfl, H7.out.b⟩
  have hkz : (k : Int) < (l.length : Int) := by omega
  obtain ⟨g, o, c', e', -, hg, R0⟩ := HS.out.elem (n := 3) (by decide) (fun _ => rfl) hlt
  injection e' with e1 e2 e3
  subst e1 e3
  obtain ⟨n1, n2⟩ := HO.out k hlt
  have FX := hid (HF.out _ (List.getElem_mem hlt))
  have XA : Hid (∀ W, RBL r w 31 gl cs W → W.cell? ⟨g, o + k * 3, none⟩ = some (.int .i64 l[k].area) ∧ W.cell? ⟨g, o + k * 3 + 1, none⟩ = some (.int .u32 (l[k].pa : Int)) ∧ W.cell? ⟨g, o + k * 3 + 2, none⟩ = some (.int .i64 l[k].pl)) := hid (fun W h => have hb := h.b.mono HBB.out; ⟨(hb.cell (p := ⟨g, o + k * 3, none⟩) hg).trans (R0 0 _ rfl), (hb.cell (p := ⟨g, o + k * 3 + 1, none⟩) hg).trans (R0 1 _ rfl), (hb.cell (p := ⟨g, o + k * 3 + 2, none⟩) hg).trans (R0 2 _ rfl)⟩)
  have N2 := hid n2
  obtain ⟨k1, k2⟩ := ar_ok n1
  have hvd := zEw l[k].pa l[k].pl wr FX.out
  rw [k2] at hvd
  unfold PV at hvd
  have HVD := hid hvd
  clear R0 e2 n1 n2 hvd k2
  generalize l[k] = x at *
  obtain ⟨xa, xp, xl⟩ := XA.out wr HB.out
  go_wp2_with (go_at_call 20; refine (HWI.out _ _ _ _).mono ?_; rintro e w' ⟨rfl, rfl⟩)
  refine HVD.out.mono ?_
  rintro e wz ⟨rfl, hb⟩
  have HZ := hid (HB.out.keep hb)
  clear hb xa xp xl k1 HVD HB cl cm
  go_wp2_with fail
  go_loopg [5] k (fun gh ix wq => ∃ j : Nat, j + gh = k ∧ ix = .int .i64 j ∧ Hid (RBL r w 31 gl cs wq))
  case atStart => exact ⟨0, by omega, rfl, HZ⟩
  case round =>
   clear HZ
   obtain ⟨j, hj, rfl, HQ⟩ := hrel
   by_cases hjl : j < k
   case neg =>
    have hjz : ¬ ((j : Int) < (k : Int)) := by omega
    go_wp2_with fail
    go_roundg (l.length - (k + 1))
    case measure => omega
    case rel => exact ⟨k + 1, by omega, by go_num, HQ⟩
   have hjn : j < l.length := by omega
   have hjz : (j : Int) < (k : Int) := by omega
   have hjm : (j : Int) < (l.length : Int) := by omega
   obtain ⟨g', o', c'', e', -, hg', R0⟩ := HS.out.elem (n := 3) (by decide) (fun _ => rfl) hjn
   injection e' with e1 e2 e3
   injection e1 with e1
   injection e1 with e1 e4
   subst e1 e4
   have NE := N2.out j hjn hjl
   have FY := hid (HF.out _ (List.getElem_mem hjn))
   have YA : Hid (∀ W, RBL r w 31 gl cs W → W.cell? ⟨g, o + j * 3, none⟩ = some (.int .i64 l[j].area) ∧ W.cell? ⟨g, o + j * 3 + 1, none⟩ = some (.int .u32 (l[j].pa : Int)) ∧ W.cell? ⟨g, o + j * 3 + 2, none⟩ = some (.int .i64 l[j].pl)) := hid (fun W h => have hb := h.b.mono HBB.out; ⟨(hb.cell (p := ⟨g, o + j * 3, none⟩) hg').trans (R0 0 _ rfl), (hb.cell (p := ⟨g, o + j * 3 + 1, none⟩) hg').trans (R0 1 _ rfl), (hb.cell (p := ⟨g, o + j * 3 + 2, none⟩) hg').trans (R0 2 _ rfl)⟩)
   clear R0 e2 e3
   generalize l[j] = y at NE FY YA
   have PO := hid (fun W => zIt y.pa y.pl x.pa x.pl W FY.out FX.out)
   unfold PV at PO
   unfold zCj at NE
   have NA : (y.area == x.area) = false ∨ ((y.area == x.area) = true ∧ overP y.pa y.pl x.pa x.pl = false) := by
    cases ha : (y.area == x.area) with
    | false => exact .inl rfl
    | true => rw [ha, Bool.true_and] at NE; exact .inr ⟨rfl, NE⟩
   clear NE
   obtain ⟨cl, cm⟩ := CL.out wr HQ.out
   go_wp2_with fail
   refine zEm (fun W => RBL r w 31 gl cs W) (by kernel_rfl) (by kernel_rfl) (HQ.out.keep (zAw wr)) ?_
   rcases NA with NA | ⟨NA, NB⟩
   all_goals
    repeat
     (first
      | (refine zIw ?_ ?_; (· rfl))
      | (refine zHl (v := ?_) ?_ ?_ ?_; rotate_left; (· rfl); (· (intro W hW; obtain ⟨xa, xp, xl⟩ := XA.out W hW; obtain ⟨ya, yp, yl⟩ := YA.out W hW; obtain ⟨cl, cm⟩ := CL.out W hW; go_simp <;> rfl)))
      | (refine zFi ?_ ?_ (fun W hW => (PO.out W).mono fun e w' ⟨he, hb⟩ => ⟨he, hW.keep hb⟩) ?_; (· rfl); (· (intro W hW; go_simp <;> rfl))))
     simp only [Act.put, List.setIfInBounds_toArray, List.set_cons_zero, List.set_cons_succ]
    refine zJm (fun wq hS => ?_)
    have HZ := hid hS
    clear hS YA PO HQ cl cm
    go_wp2_with fail
    go_roundg (k - (j + 1))
    case measure => omega
    case rel => exact ⟨j + 1, by omega, by go_num, HZ⟩
set_option maxRecDepth 100000 in
theorem rdistance_ok (r : Rt) (w : World) (B : Nat) (hB : B ≤ w.heap.size) (h : r.at w B) (hz : dvE r = 0) : Calls Tryz.prog 29 #[.agg r.C] w fun e w' => e = .returned (.int .i64 0) ∧ Below w.heap.size w w' := by
 have HBB := hid hB
 have H0 := RB.start r w
 have HR := hid h
 have HWI := hid zCg
 obtain ⟨A2, c2, hv2, -⟩ := id h.hdvRed
 have HLR := h.hdvRed
 rw [hv2] at HLR
 replace HLR := hid HLR
 have HZR := hid hz
 clear hz
 have HO : (#[.bool r.dvOn, .int .i64 r.dvAdmin, .string (str r.dvIn), .string (str r.dvOut), .slice A2 r.dvRed.length c2] : Array Value).all (·.oneCell') = true := by
  rw [Array.all_eq_true_iff_forall_mem]
  intro v hv
  simp only [List.mem_toArray, List.mem_cons, List.not_mem_nil, or_false] at hv
  rcases hv with rfl | rfl | rfl | rfl | rfl <;> rfl
 have HSh := hid (H0.h.subM 12 #[.bool r.dvOn, .int .i64 r.dvAdmin, .string (str r.dvIn), .string (str r.dvOut), .slice A2 r.dvRed.length c2] (fun j hj => by
  have hj' : j < 5 := hj
  rcases (show j = 0 ∨ j = 1 ∨ j = 2 ∨ j = 3 ∨ j = 4 by omega) with rfl | rfl | rfl | rfl | rfl <;> first | rfl | (show some _ = some _; simp only [Option.some.injEq]; assumption)))
 have H0h := hid H0
 clear H0 hv2 h hB
 go_enter Tryz.func29, Tryz.ntmps29
 go_upto_region 2 with (refine zAa rfl 33 _ rfl rfl HSh.out Tryz.rowDV Tryz.sizeDV ?_)
 have H5 : Hid (RBL r w 33 (w.alloc (.cells r.C 41)).heap.size #[.bool r.dvOn, .int .i64 r.dvAdmin, .string (str r.dvIn), .string (str r.dvOut), .slice A2 r.dvRed.length c2] ((w.alloc (.cells r.C 41)).alloc (.cells #[.bool r.dvOn, .int .i64 r.dvAdmin, .string (str r.dvIn), .string (str r.dvOut), .slice A2 r.dvRed.length c2] 33))) := hid ⟨(H0h.out.keep ((Below.refl _ _).alloc (Nat.le_refl _) _)).h, (H0h.out.keep ((Below.refl _ _).alloc (Nat.le_refl _) _)).b, HasC.new _ _ _⟩
 clear H0h HSh HO
 generalize hw5 : (w.alloc (.cells r.C 41)).alloc (.cells #[.bool r.dvOn, .int .i64 r.dvAdmin, .string (str r.dvIn), .string (str r.dvOut), .slice A2 r.dvRed.length c2] 33) = w5 at H5 ⊢
 clear hw5
 rw [show (w.alloc (.cells r.C 41)).heap.size = w.heap.size + 1 from by simp] at H5
 generalize w.heap.size + 1 = gl at H5 ⊢
 have lc0 : w5.cell? ⟨gl, 0, none⟩ = some (.bool r.dvOn) := H5.out.l.cell 0
 have lc1 : w5.cell? ⟨gl, 1, none⟩ = some (.int .i64 r.dvAdmin) := H5.out.l.cell 1
 have lc2 : w5.cell? ⟨gl, 2, none⟩ = some (.string (str r.dvIn)) := H5.out.l.cell 2
 have lc3 : w5.cell? ⟨gl, 3, none⟩ = some (.string (str r.dvOut)) := H5.out.l.cell 3
 have lc4 : w5.cell? ⟨gl, 4, none⟩ = some (.slice A2 r.dvRed.length c2) := H5.out.l.cell 4
 rcases dv_ok HZR.out with ⟨o1, o2, o3, o4, o5⟩ | ⟨o1, o2, o3, o4, o5⟩
 ·rw [o1] at lc0
  rw [o2] at lc1
  rw [o3] at lc2
  rw [o4] at lc3
  rw [o5] at lc4
  have tn := zAb ([] : List UInt8)
  clear HR HLR HZR
  go_wp2_with fail
  go_ret
  exact ⟨rfl, H5.out.b⟩
 rw [o1] at lc0
 have O3 := hid o3
 have O4 := hid o4
 have O5 := hid o5
 have HLT : Hid (∀ w', RBL r w 33 gl #[.bool r.dvOn, .int .i64 r.dvAdmin, .string (str r.dvIn), .string (str r.dvOut), .slice A2 r.dvRed.length c2] w' → w'.cell? ⟨gl, 4, none⟩ = some (.slice A2 r.dvRed.length c2)) := hid (fun w' h => h.l.cell 4)
 clear o3 o4 o5 HZR lc2 lc3 lc4
 have y2 : w5.cell? ⟨gl, 2, none⟩ = some (.string (str r.dvIn)) := H5.out.l.cell 2
 by_cases hn6 : r.dvIn = []
 ·rw [hn6] at y2
  have tn6 := zAb ([] : List UInt8)
  have y3 : w5.cell? ⟨gl, 3, none⟩ = some (.string (str r.dvOut)) := H5.out.l.cell 3
  by_cases hn7 : r.dvOut = []
  ·rw [hn7] at y3
   have tn7 := zAb ([] : List UInt8)
   have lz := HLT.out _ H5.out
   go_wp2_with (first | (go_at_call 20; refine (HWI.out _ _ _ _).mono ?_; rintro e w' ⟨rfl, rfl⟩) | (first | (refine zAa rfl 41 _ rfl rfl H5.out.h.range Tryz.rowRt Tryz.sizeRt ?_) | (refine zAk (by rfl) (zAa rfl 41 _ rfl rfl H5.out.h.range Tryz.rowRt Tryz.sizeRt ?_))))
   with_reducible refine (zKa r r.dvRed (.slice A2 r.dvRed.length c2) 4 1 15 0 (.inr ⟨by decide, rfl⟩) w5 B (Nat.le_trans HBB.out H5.out.b.size) (HR.out.below (H5.out.b.mono HBB.out)) (HLR.out.below (H5.out.b.mono HBB.out)) O5.out).mono ?_
   rintro e wz ⟨rfl, hb⟩
   have HZ := hid (H5.out.keep hb)
   clear hb lz
   go_wp2_with fail
   go_ret
   exact ⟨rfl, HZ.out.b⟩
  obtain ⟨i7, j7, k7⟩ := zCv hn7
  have d7 := O4.out hn7
  go_wp2_with (first | (go_at_call 20; refine (HWI.out _ _ _ _).mono ?_; rintro e w' ⟨rfl, rfl⟩) | (first | (refine zAa rfl 41 _ rfl rfl H5.out.h.range Tryz.rowRt Tryz.sizeRt ?_) | (refine zAk (by rfl) (zAa rfl 41 _ rfl rfl H5.out.h.range Tryz.rowRt Tryz.sizeRt ?_))))
  with_reducible refine (zEz r r.dvOut w5 B (HR.out.below (H5.out.b.mono HBB.out)) (Nat.le_trans HBB.out H5.out.b.size)).mono ?_
  rintro e w7 ⟨rfl, hb⟩
  have H7 := hid (H5.out.keep hb)
  clear hb y3 i7 j7 k7
  have lz := HLT.out _ H7.out
  go_wp2_with (first | (go_at_call 20; refine (HWI.out _ _ _ _).mono ?_; rintro e w' ⟨rfl, rfl⟩) | (first | (refine zAa rfl 41 _ rfl rfl H7.out.h.range Tryz.rowRt Tryz.sizeRt ?_) | (refine zAk (by rfl) (zAa rfl 41 _ rfl rfl H7.out.h.range Tryz.rowRt Tryz.sizeRt ?_))))
  with_reducible refine (zKa r r.dvRed (.slice A2 r.dvRed.length c2) 4 1 15 0 (.inr ⟨by decide, rfl⟩) w7 B (Nat.le_trans HBB.out H7.out.b.size) (HR.out.below (H7.out.b.mono HBB.out)) (HLR.out.below (H7.out.b.mono HBB.out)) O5.out).mono ?_
  rintro e wz ⟨rfl, hb⟩
  have HZ := hid (H7.out.keep hb)
  clear hb lz
  go_wp2_with fail
  go_ret
  exact ⟨rfl, HZ.out.b⟩
 obtain ⟨i6, j6, k6⟩ := zCv hn6
 have d6 := O3.out hn6
 go_wp2_with (first | (go_at_call 20; refine (HWI.out _ _ _ _).mono ?_; rintro e w' ⟨rfl, rfl⟩) | (first | (refine zAa rfl 41 _ rfl rfl H5.out.h.range Tryz.rowRt Tryz.sizeRt ?_) | (refine zAk (by rfl) (zAa rfl 41 _ rfl rfl H5.out.h.range Tryz.rowRt Tryz.sizeRt ?_))))
 with_reducible refine (zEz r r.dvIn w5 B (HR.out.below (H5.out.b.mono HBB.out)) (Nat.le_trans HBB.out H5.out.b.size)).mono ?_
 rintro e w6 ⟨rfl, hb⟩
 have H6 := hid (H5.out.keep hb)
 clear hb y2 i6 j6 k6
 have y3 : w6.cell? ⟨gl, 3, none⟩ = some (.string (str r.dvOut)) := H6.out.l.cell 3
 by_cases hn7 : r.dvOut = []
 ·rw [hn7] at y3
  have tn7 := zAb ([] : List UInt8)
  have lz := HLT.out _ H6.out
  go_wp2_with (first | (go_at_call 20; refine (HWI.out _ _ _ _).mono ?_; rintro e w' ⟨rfl, rfl⟩) | (first | (refine zAa rfl 41 _ rfl rfl H6.out.h.range Tryz.rowRt Tryz.sizeRt ?_) | (refine zAk (by rfl) (zAa rfl 41 _ rfl rfl H6.out.h.range Tryz.rowRt Tryz.sizeRt ?_))))
  with_reducible refine (zKa r r.dvRed (.slice A2 r.dvRed.length c2) 4 1 15 0 (.inr ⟨by decide, rfl⟩) w6 B (Nat.le_trans HBB.out H6.out.b.size) (HR.out.below (H6.out.b.mono HBB.out)) (HLR.out.below (H6.out.b.mono HBB.out)) O5.out).mono ?_
  rintro e wz ⟨rfl, hb⟩
  have HZ := hid (H6.out.keep hb)
  clear hb lz
  go_wp2_with fail
  go_ret
  exact ⟨rfl, HZ.out.b⟩
 obtain ⟨i7, j7, k7⟩ := zCv hn7
 have d7 := O4.out hn7
 go_wp2_with (first | (go_at_call 20; refine (HWI.out _ _ _ _).mono ?_; rintro e w' ⟨rfl, rfl⟩) | (first | (refine zAa rfl 41 _ rfl rfl H6.out.h.range Tryz.rowRt Tryz.sizeRt ?_) | (refine zAk (by rfl) (zAa rfl 41 _ rfl rfl H6.out.h.range Tryz.rowRt Tryz.sizeRt ?_))))
 with_reducible refine (zEz r r.dvOut w6 B (HR.out.below (H6.out.b.mono HBB.out)) (Nat.le_trans HBB.out H6.out.b.size)).mono ?_
 rintro e w7 ⟨rfl, hb⟩
 have H7 := hid (H6.out.keep hb)
 clear hb y3 i7 j7 k7
 have lz := HLT.out _ H7.out
 go_wp2_with (first | (go_at_call 20; refine (HWI.out _ _ _ _).mono ?_; rintro e w' ⟨rfl, rfl⟩) | (first | (refine zAa rfl 41 _ rfl rfl H7.out.h.range Tryz.rowRt Tryz.sizeRt ?_) | (refine zAk (by rfl) (zAa rfl 41 _ rfl rfl H7.out.h.range Tryz.rowRt Tryz.sizeRt ?_))))
 with_reducible refine (zKa r r.dvRed (.slice A2 r.dvRed.length c2) 4 1 15 0 (.inr ⟨by decide, rfl⟩) w7 B (Nat.le_trans HBB.out H7.out.b.size) (HR.out.below (H7.out.b.mono HBB.out)) (HLR.out.below (H7.out.b.mono HBB.out)) O5.out).mono ?_
 rintro e wz ⟨rfl, hb⟩
 have HZ := hid (H7.out.keep hb)
 clear hb lz
 go_wp2_with fail
 go_ret
 exact ⟨rfl, HZ.out.b⟩
theorem RB.range {r : Rt} {w0 w : World} (h : RB r w0 w) : w.rangeAt w0.heap.size 0 r.C.toList := h.h.range
theorem nbR_ok {maps : List RMap} {x : Nb} (h : nbF maps x = 0) : x.addr ≠ 0 ∧ zAg x.asn 1 65535 = true ∧ (x.inn ≠ [] → decide (idxF (fun y => y.name == x.inn) maps 0 < 0) = false) ∧ (x.out ≠ [] → decide (idxF (fun y => y.name == x.out) maps 0 < 0) = false) := by
 unfold nbF at h
 obtain ⟨hr, h⟩ := if_ok h (by decide)
 obtain ⟨hl, -⟩ := if_no (a := 0) h (by decide)
 rw [Bool.or_eq_false_iff] at hl
 simp only [Bool.and_eq_true, Bool.not_eq_true', beq_eq_false_iff_ne] at hr
 exact ⟨hr.1, hr.2, zGc hl.1, zGc hl.2⟩
set_option maxRecDepth 100000 in
theorem rneighbors_ok (r : Rt) (w : World) (B : Nat) (hB : B ≤ w.heap.size) (h : r.at w B) (hz : nbsE r.maps r.nb = 0) : Calls Tryz.prog 55 #[.agg r.C] w fun e w' => e = .returned (.int .i64 0) ∧ Below w.heap.size w w' := by
 have HBB := hid hB
 have HR := hid h
 have HB := hid (RB.start r w)
 have HWI := hid zCg
 have hl := h.hnb
 have hlen := hl.len
 simp only [maxLen] at hlen
 obtain ⟨h8, hO⟩ := zGy (by decide) hz
 have c20 : (w.alloc (.cells r.C 41)).cell? ⟨w.heap.size, 20, none⟩ = some r.nbV := HB.out.h.cell 20
 generalize r.nb = l at *
 obtain ⟨A, c, hv, -⟩ := id hl
 rw [hv] at hl c20
 have HO := hid hO
 have HS := hid hl
 have d8 : ¬ ((8 : Int) < (l.length : Int)) := by omega
 clear h hz hO hl hv
 go_enter Tryz.func55, Tryz.ntmps55
 go_wp2_with fail
 clear d8 c20
 go_loopg [4] l.length (fun gh ix wr => ∃ k : Nat, k + gh = l.length ∧ ix = .int .i64 k ∧ Hid (RB r w wr))
 case atStart => exact ⟨0, by omega, rfl, HB⟩
 case round =>
  clear HB
  obtain ⟨k, hk, rfl, HB⟩ := hrel
  by_cases hlt : k < l.length
  case neg =>
   have hkz : ¬ ((k : Int) < (l.length : Int)) := by omega
   go_wp2_with fail
   go_ret
   exact ⟨rfl, HB.out.b⟩
  have hkz : (k : Int) < (l.length : Int) := by omega
  obtain ⟨g, o, c', e', -, hg, R0⟩ := HS.out.elem (n := 4) (by decide) (fun _ => rfl) hlt
  injection e' with e1 e2 e3
  subst e1 e3
  obtain ⟨n1, n2⟩ := HO.out k hlt
  have N2 := hid n2
  have XA : Hid (∀ W, RB r w W → W.cell? ⟨g, o + k * 4, none⟩ = some (.int .u32 (l[k].addr : Int)) ∧ W.cell? ⟨g, o + k * 4 + 1, none⟩ = some (.int .i64 l[k].asn) ∧ W.cell? ⟨g, o + k * 4 + 2, none⟩ = some (.string (str l[k].inn)) ∧ W.cell? ⟨g, o + k * 4 + 3, none⟩ = some (.string (str l[k].out))) := hid (fun W h => have hb := h.b.mono HBB.out; ⟨(hb.cell (p := ⟨g, o + k * 4, none⟩) hg).trans (R0 0 _ rfl), (hb.cell (p := ⟨g, o + k * 4 + 1, none⟩) hg).trans (R0 1 _ rfl), (hb.cell (p := ⟨g, o + k * 4 + 2, none⟩) hg).trans (R0 2 _ rfl), (hb.cell (p := ⟨g, o + k * 4 + 3, none⟩) hg).trans (R0 3 _ rfl)⟩)
  obtain ⟨k1, k2, k3, k4⟩ := nbR_ok n1
  have DI := hid k3
  have DO := hid k4
  clear R0 e2 n1 n2 k3 k4
  generalize l[k] = x at *
  obtain ⟨addr, asn, inn, out⟩ := x
  dsimp only at XA k1 k2 DI DO N2
  have v1 : ((addr : Int) == 0) = false := by simp; omega
  obtain ⟨xa, xs, xi, xo⟩ := XA.out wr HB.out
  go_wp2_with (go_at_call 20; refine (HWI.out _ _ _ _).mono ?_; rintro e w' ⟨rfl, rfl⟩)
  clear xa xs xi xo v1 k1 k2
  have LI := hid (fun W (h : RB r w W) => zGv r inn W B (HR.out.below (h.b.mono HBB.out)) (Nat.le_trans HBB.out h.b.size))
  have LO := hid (fun W (h : RB r w W) => zGv r out W B (HR.out.below (h.b.mono HBB.out)) (Nat.le_trans HBB.out h.b.size))
  have SI : inn = [] ∨ (((str inn).toList == []) = false ∧ ((str inn).toList != []) = true ∧ decide (idxF (fun y => y.name == inn) r.maps 0 < 0) = false) := by
   by_cases hn : inn = []
   ·exact .inl hn
   ·exact .inr ⟨(zCv hn).2.1, (zCv hn).2.2, DI.out hn⟩
  have SO : out = [] ∨ (((str out).toList == []) = false ∧ ((str out).toList != []) = true ∧ decide (idxF (fun y => y.name == out) r.maps 0 < 0) = false) := by
   by_cases hn : out = []
   ·exact .inl hn
   ·exact .inr ⟨(zCv hn).2.1, (zCv hn).2.2, DO.out hn⟩
  have tn := zAb ([] : List UInt8)
  clear DI DO
  refine zEm (fun W => RB r w W) (by kernel_rfl) (by kernel_rfl) (HB.out.keep (zAw wr)) ?_
  rcases SI with rfl | ⟨s1, s2, s3⟩
  all_goals rcases SO with rfl | ⟨u1, u2, u3⟩
  all_goals
   repeat
    (first
     | (refine zIw ?_ ?_; (· rfl))
     | refine seq_yields (zHr (by rfl) 41 _ rfl rfl (fun W hW => RB.range hW) Tryz.rowRt Tryz.sizeRt) ?_
     | (refine zHl (v := ?_) ?_ ?_ ?_; rotate_left; (· rfl); (· (intro W hW; obtain ⟨xa, xs, xi, xo⟩ := XA.out W hW; go_simp <;> rfl)))
     | (refine zFi ?_ ?_ (fun W hW => (LI.out W hW).mono fun e w' ⟨he, hb⟩ => ⟨he, hW.keep hb⟩) ?_; (· rfl); (· (intro W hW; go_simp <;> rfl)))
     | (refine zFi ?_ ?_ (fun W hW => (LO.out W hW).mono fun e w' ⟨he, hb⟩ => ⟨he, hW.keep hb⟩) ?_; (· rfl); (· (intro W hW; go_simp <;> rfl))))
    simp only [Act.put, List.setIfInBounds_toArray, List.set_cons_zero, List.set_cons_succ]
   refine zJm (fun wq hS => ?_)
   have HZ := hid hS
   clear hS LI LO HB
   go_wp2_with fail
   go_loopg [5] k (fun gh ix wq => ∃ j : Nat, j + gh = k ∧ ix = .int .i64 j ∧ Hid (RB r w wq))
   case atStart => exact ⟨0, by omega, rfl, HZ⟩
   case round =>
    clear HZ
    obtain ⟨j, hj, rfl, HQ⟩ := hrel
    obtain ⟨xa, xs, xi, xo⟩ := XA.out wr HQ.out
    by_cases hjl : j < k
    case pos =>
     have hjn : j < l.length := by omega
     have hjz : (j : Int) < (k : Int) := by omega
     have hjm : (j : Int) < (l.length : Int) := by omega
     obtain ⟨g', o', c'', e', -, hg', R0⟩ := HS.out.elem (n := 4) (by decide) (fun _ => rfl) hjn
     injection e' with e1 e2 e3
     injection e1 with e1
     injection e1 with e1 e4
     subst e1 e4
     have NE := N2.out j hjn hjl
     have y0 : wr.cell? ⟨g, o + j * 4, none⟩ = some (.int .u32 (l[j].addr : Int)) := zAh R0 (HQ.out.b.mono HBB.out) hg' 0 _ rfl
     unfold zBi at NE
     dsimp only at NE
     have NF : ((l[j].addr : Int) == (addr : Int)) = false := by
      have q : l[j].addr ≠ addr := by simpa using NE
      simp
      omega
     generalize l[j].addr = ya at y0 NF
     clear NE
     all_goals
      clear R0 e2 e3
      go_wp2_with fail
      go_still (by kernel_rfl)
      go_wp2_with fail
      go_roundg (k - (j + 1))
      case measure => omega
      case rel => exact ⟨j + 1, by omega, by go_num, hid (HQ.out.keep (zAw wr))⟩
    have hjz : ¬ ((j : Int) < (k : Int)) := by omega
    go_wp2_with fail
    go_roundg (l.length - (k + 1))
    case measure => omega
    case rel => exact ⟨k + 1, by omega, by go_num, HQ⟩
theorem net_ok {x : Pf} (h : netF x = 0) : zBl x.pa x.pl = true := (if_ok h (by decide)).1
theorem ag_ok {x : Ag} (h : agF x = 0) : zBl x.pa x.pl = true := (if_ok h (by decide)).1
theorem cdR_ok {x : Cd} (h : cdF x = 0) : zBl x.pa x.pl = true ∧ zBl x.ia x.il = true ∧ decide (x.pa = x.ia ∧ x.pl = x.il) = false := by
 unfold cdF at h
 obtain ⟨h1, h2⟩ := if_ok h (by decide)
 rw [Bool.and_eq_true] at h1
 exact ⟨h1.1, h1.2, (if_no (a := 0) h2 (by decide)).1⟩
theorem orig_ok {r : Rt} (h : origE r = 0) : netsE r.net = 0 ∧ agsE r.ag = 0 ∧ cdsE r.cd = 0 := by
 unfold origE at h
 obtain ⟨h1, h2⟩ := zGp h
 exact ⟨h1, zGp h2⟩
theorem pv_ok {r : Rt} (h : pvE r = 0) : (r.pvOn = false ∧ r.ext = 0 ∧ r.int = 0 ∧ r.nb.length = 0 ∧ r.net.length = 0 ∧ r.ag.length = 0 ∧ r.cd.length = 0 ∧ r.pvRed.length = 0) ∨ (r.pvOn = true ∧ (r.asn == 0) = false ∧ zAg r.ext 1 255 = true ∧ zAg r.int 1 255 = true ∧ nbsE r.maps r.nb = 0 ∧ origE r = 0 ∧ redE r.maps 5 0 16777215 0 r.pvRed = 0) := by
 unfold pvE at h
 cases ho : r.pvOn with
 | true =>
  rw [ho] at h
  simp only [if_true] at h
  obtain ⟨h1, h2⟩ := if_ok h (by decide)
  obtain ⟨h3, h4⟩ := zGp h2
  obtain ⟨h5, h6⟩ := zGp h4
  simp only [Bool.and_eq_true, Bool.not_eq_true'] at h1
  exact .inr ⟨rfl, h1.1.1, h1.1.2, h1.2, h3, h5, h6⟩
 | false =>
  rw [ho] at h
  simp only [Bool.false_eq_true, if_false] at h
  obtain ⟨h1, -⟩ := if_no (a := 0) h (by decide)
  simp at h1
  exact .inl ⟨rfl, by simp_all, by simp_all, by simp_all, by simp_all, by simp_all, by simp_all, by simp_all⟩
set_option maxRecDepth 100000 in
theorem rorig_ok (r : Rt) (w : World) (B : Nat) (hB : B ≤ w.heap.size) (h : r.at w B) (hf1 : ∀ x ∈ r.net, x.fit) (hf2 : ∀ x ∈ r.ag, x.fit) (hf3 : ∀ x ∈ r.cd, x.fit) (hz : origE r = 0) : Calls Tryz.prog 56 #[.agg r.pvC] w fun e w' => e = .returned (.int .i64 0) ∧ Below w.heap.size w w' := by
 have HBB := hid hB
 have HB := hid (RQ.start 39 r.pvC w)
 have HF1 := hid hf1
 have HF2 := hid hf2
 have HF3 := hid hf3
 obtain ⟨z1, z2, z3⟩ := orig_ok hz
 obtain ⟨m1, hO1⟩ := zGy (by decide) z1
 obtain ⟨m2, hO2⟩ := zGy (by decide) z2
 obtain ⟨m3, hO3⟩ := zGy (by decide) z3
 have HO1 := hid hO1
 have HO2 := hid hO2
 have HO3 := hid hO3
 have hl1 := h.hnet
 have hlen1 := hl1.len
 simp only [maxLen] at hlen1
 obtain ⟨A1, c1, hv1, -⟩ := id hl1
 have CL1 : Hid (∀ W, RQ 39 r.pvC w W → W.cell? ⟨w.heap.size, 4, none⟩ = some (.slice A1 r.net.length c1)) := hid (fun W h => by rw [← hv1]; exact h.h.cell 4)
 rw [hv1] at hl1
 have HS1 := hid hl1
 have hl2 := h.hag
 have hlen2 := hl2.len
 simp only [maxLen] at hlen2
 obtain ⟨A2, c2, hv2, -⟩ := id hl2
 have CL2 : Hid (∀ W, RQ 39 r.pvC w W → W.cell? ⟨w.heap.size, 5, none⟩ = some (.slice A2 r.ag.length c2)) := hid (fun W h => by rw [← hv2]; exact h.h.cell 5)
 rw [hv2] at hl2
 have HS2 := hid hl2
 have hl3 := h.hcd
 have hlen3 := hl3.len
 simp only [maxLen] at hlen3
 obtain ⟨A3, c3, hv3, -⟩ := id hl3
 have CL3 : Hid (∀ W, RQ 39 r.pvC w W → W.cell? ⟨w.heap.size, 6, none⟩ = some (.slice A3 r.cd.length c3)) := hid (fun W h => by rw [← hv3]; exact h.h.cell 6)
 rw [hv3] at hl3
 have HS3 := hid hl3
 have d1 : ¬ ((8 : Int) < (r.net.length : Int)) := by omega
 have d2 : ¬ ((8 : Int) < (r.ag.length : Int)) := by omega
 have d3 : ¬ ((8 : Int) < (r.cd.length : Int)) := by omega
 clear h hf1 hf2 hf3 hz z1 z2 z3 hO1 hO2 hO3 hl1 hl2 hl3 hv1 hv2 hv3
 generalize r.net = l1 at *
 generalize r.ag = l2 at *
 generalize r.cd = l3 at *
 have cn := CL1.out _ HB.out
 go_enter Tryz.func56, Tryz.ntmps56
 go_wp2_with fail
 clear cn d1
 go_loopg [3] l1.length (fun gh ix wr => ∃ k : Nat, k + gh = l1.length ∧ ix = .int .i64 k ∧ Hid (RQ 39 r.pvC w wr))
 case atStart => exact ⟨0, by omega, rfl, HB⟩
 case round =>
  clear HB
  obtain ⟨k, hk, rfl, HB⟩ := hrel
  have cl := CL1.out wr HB.out
  by_cases hlt : k < l1.length
  case neg =>
   have hkz : ¬ ((k : Int) < (l1.length : Int)) := by omega
   have cn := CL2.out wr HB.out
   go_wp2_with fail
   clear cn cl d2 HS1 HO1 HF1 CL1
   go_loopg [5] l2.length (fun gh ix wr => ∃ k : Nat, k + gh = l2.length ∧ ix = .int .i64 k ∧ Hid (RQ 39 r.pvC w wr))
   case atStart => exact ⟨0, by omega, rfl, HB⟩
   case round =>
    clear HB
    obtain ⟨k, hk, rfl, HB⟩ := hrel
    have cl := CL2.out wr HB.out
    by_cases hlt : k < l2.length
    case neg =>
     have hkz : ¬ ((k : Int) < (l2.length : Int)) := by omega
     have cn := CL3.out wr HB.out
     go_wp2_with fail
     clear cn cl d3 HS2 HO2 HF2 CL2
     go_loopg [7] l3.length (fun gh ix wr => ∃ k : Nat, k + gh = l3.length ∧ ix = .int .i64 k ∧ Hid (RQ 39 r.pvC w wr))
     case atStart => exact ⟨0, by omega, rfl, HB⟩
     case round =>
      clear HB
      obtain ⟨k, hk, rfl, HB⟩ := hrel
      have cl := CL3.out wr HB.out
      by_cases hlt : k < l3.length
      case neg =>
       have hkz : ¬ ((k : Int) < (l3.length : Int)) := by omega
       go_wp2_with fail
       go_ret
       exact ⟨rfl, HB.out.b⟩
      have hkz : (k : Int) < (l3.length : Int) := by omega
      obtain ⟨g, o, c', e', -, hg, R0⟩ := HS3.out.elem (n := 5) (by decide) (fun _ => rfl) hlt
      injection e' with e1 e2 e3
      subst e1 e3
      obtain ⟨n1, n2⟩ := HO3.out k hlt
      have N2 := hid n2
      have FX := hid (HF3.out _ (List.getElem_mem hlt))
      have r1 := hid (zAh R0 (HB.out.b.mono HBB.out) hg)
      obtain ⟨k1, k2, k3⟩ := cdR_ok n1
      clear R0 e2 n1 n2
      generalize l3[k] = x at r1 FX N2 k1 k2 k3
      go_upto_region 31 with (first | (refine zAa rfl 119 _ rfl rfl r1.out Tryz.rowCd Tryz.sizeCd ?_) | (refine zAe rfl 119 _ _ rfl rfl rfl (HasC.new wr _ _) rfl Tryz.sizeCd (Cd.one x) ?_; intro w5 hz1 hz2))
      have H5 : Hid (RQ 39 r.pvC w w5 ∧ HasC 119 wr.heap.size x.C w5) := hid ⟨HB.out.keep (zAn hz2), hz1⟩
      clear hz1 hz2 r1 HB cl
      generalize wr.heap.size = gx at H5 ⊢
      have KS : Hid (∀ {W W' : World}, (RQ 39 r.pvC w W ∧ HasC 119 gx x.C W) → Below W.heap.size W W' → (RQ 39 r.pvC w W' ∧ HasC 119 gx x.C W')) := hid (fun h hb => ⟨h.1.keep hb, h.2.keep hb⟩)
      obtain ⟨pa, pl, ia, il, ab⟩ := x
      dsimp only at k1 k2 k3
      have CE : Hid (∀ W, (RQ 39 r.pvC w W ∧ HasC 119 gx (Cd.C ⟨pa, pl, ia, il, ab⟩) W) → W.cell? ⟨gx, 0, none⟩ = some (.int .u32 (pa : Int)) ∧ W.cell? ⟨gx, 1, none⟩ = some (.int .i64 pl) ∧ W.cell? ⟨gx, 2, none⟩ = some (.int .u32 (ia : Int)) ∧ W.cell? ⟨gx, 3, none⟩ = some (.int .i64 il)) := hid (fun W h => ⟨h.2.cell 0, h.2.cell 1, h.2.cell 2, h.2.cell 3⟩)
      generalize Cd.C ⟨pa, pl, ia, il, ab⟩ = cs at H5 KS CE
      have V1 := hid (fun W => zEw pa pl W FX.out.1)
      have V2 := hid (fun W => zEw ia il W FX.out.2)
      rw [k1] at V1
      rw [k2] at V2
      unfold PV at V1 V2
      obtain ⟨x0, x1, x2, x3⟩ := CE.out w5 H5.out
      go_wp2_with fail
      refine (V1.out w5).mono ?_
      rintro e w6 ⟨rfl, hb⟩
      have H6 := hid (KS.out H5.out hb)
      clear hb x0 x1 x2 x3 H5 V1
      obtain ⟨x0, x1, x2, x3⟩ := CE.out w6 H6.out
      go_wp2_with fail
      refine (V2.out w6).mono ?_
      rintro e wz ⟨rfl, hb⟩
      have HZ := hid (KS.out H6.out hb)
      clear hb x0 x1 x2 x3 H6 V2
      obtain ⟨x0, x1, x2, x3⟩ := CE.out wz HZ.out
      have qi : ∀ w, (binOp .eql 72 (.agg #[.int .u32 (pa : Int), .int .i64 pl]) (.agg #[.int .u32 (ia : Int), .int .i64 il])).run Tryz.prog w = .ok (.bool false) w := fun w => by rw [zFr pa ia pl il w, k3]
      have gp := Tryz.pfxGuard
      go_wp2_with fail
      clear x0 x1 x2 x3 qi gp
      go_loopg [9] k (fun gh ix wq => ∃ j : Nat, j + gh = k ∧ ix = .int .i64 j ∧ Hid (RQ 39 r.pvC w wq ∧ HasC 119 gx cs wq))
      case atStart => exact ⟨0, by omega, rfl, HZ⟩
      case round =>
       clear HZ
       obtain ⟨j, hj, rfl, HQ⟩ := hrel
       have cl := CL3.out wr HQ.out.1
       obtain ⟨x0, x1, -, -⟩ := CE.out wr HQ.out
       by_cases hjl : j < k
       case pos =>
        have hjn : j < l3.length := by omega
        have hjz : (j : Int) < (k : Int) := by omega
        have hjm : (j : Int) < (l3.length : Int) := by omega
        obtain ⟨g', o', c'', e', -, hg', R0⟩ := HS3.out.elem (n := 5) (by decide) (fun _ => rfl) hjn
        injection e' with e1 e2 e3
        injection e1 with e1
        injection e1 with e1 e4
        subst e1 e4
        have NE := N2.out j hjn hjl
        have y0 : wr.cell? ⟨g, o + j * 5, none⟩ = some (.int .u32 (l3[j].pa : Int)) := zAh R0 (HQ.out.1.b.mono HBB.out) hg' 0 _ rfl
        have y1 : wr.cell? ⟨g, o + j * 5 + 1, none⟩ = some (.int .i64 l3[j].pl) := zAh R0 (HQ.out.1.b.mono HBB.out) hg' 1 _ rfl
        have NF : decide (l3[j].pa = pa ∧ l3[j].pl = pl) = false := NE
        generalize l3[j] = y at y0 y1 NF
        clear NE
        have qe : ∀ w, (binOp .eql 72 (.agg #[.int .u32 (y.pa : Int), .int .i64 y.pl]) (.agg #[.int .u32 (pa : Int), .int .i64 pl])).run Tryz.prog w = .ok (.bool false) w := fun w => by rw [zFr y.pa pa y.pl pl w, NF]
        have gp := Tryz.pfxGuard
        all_goals
         clear R0 e2 e3
         go_wp2_with fail
         go_still (by kernel_rfl)
         go_wp2_with fail
         go_roundg (k - (j + 1))
         case measure => omega
         case rel => exact ⟨j + 1, by omega, by go_num, hid (KS.out HQ.out (zAw wr))⟩
       have hjz : ¬ ((j : Int) < (k : Int)) := by omega
       go_wp2_with fail
       go_roundg (l3.length - (k + 1))
       case measure => omega
       case rel => exact ⟨k + 1, by omega, by go_num, hid HQ.out.1⟩
    have hkz : (k : Int) < (l2.length : Int) := by omega
    obtain ⟨g, o, c', e', -, hg, R0⟩ := HS2.out.elem (n := 3) (by decide) (fun _ => rfl) hlt
    injection e' with e1 e2 e3
    subst e1 e3
    obtain ⟨n1, n2⟩ := HO2.out k hlt
    have N2 := hid n2
    have FX := hid (HF2.out _ (List.getElem_mem hlt))
    have XA : Hid (∀ W, RQ 39 r.pvC w W → W.cell? ⟨g, o + k * 3, none⟩ = some (.int .u32 (l2[k].pa : Int)) ∧ W.cell? ⟨g, o + k * 3 + 1, none⟩ = some (.int .i64 l2[k].pl)) := hid (fun W h => have hb := h.b.mono HBB.out; ⟨(hb.cell (p := ⟨g, o + k * 3, none⟩) hg).trans (R0 0 _ rfl), (hb.cell (p := ⟨g, o + k * 3 + 1, none⟩) hg).trans (R0 1 _ rfl)⟩)
    have k2 := ag_ok n1
    have hvd := zEw l2[k].pa l2[k].pl wr FX.out
    rw [k2] at hvd
    unfold PV at hvd
    have HVD := hid hvd
    clear R0 e2 n1 n2 hvd k2
    generalize l2[k] = x at *
    obtain ⟨x0, x1⟩ := XA.out wr HB.out
    go_wp2_with fail
    refine HVD.out.mono ?_
    rintro e wz ⟨rfl, hb⟩
    have HZ := hid (HB.out.keep hb)
    clear hb x0 x1 HVD HB cl
    go_wp2_with fail
    go_loopg [6] k (fun gh ix wq => ∃ j : Nat, j + gh = k ∧ ix = .int .i64 j ∧ Hid (RQ 39 r.pvC w wq))
    case atStart => exact ⟨0, by omega, rfl, HZ⟩
    case round =>
     clear HZ
     obtain ⟨j, hj, rfl, HQ⟩ := hrel
     have cl := CL2.out wr HQ.out
     obtain ⟨x0, x1⟩ := XA.out wr HQ.out
     by_cases hjl : j < k
     case pos =>
      have hjn : j < l2.length := by omega
      have hjz : (j : Int) < (k : Int) := by omega
      have hjm : (j : Int) < (l2.length : Int) := by omega
      obtain ⟨g', o', c'', e', -, hg', R0⟩ := HS2.out.elem (n := 3) (by decide) (fun _ => rfl) hjn
      injection e' with e1 e2 e3
      injection e1 with e1
      injection e1 with e1 e4
      subst e1 e4
      have NE := N2.out j hjn hjl
      have y0 : wr.cell? ⟨g, o + j * 3, none⟩ = some (.int .u32 (l2[j].pa : Int)) := zAh R0 (HQ.out.b.mono HBB.out) hg' 0 _ rfl
      have y1 : wr.cell? ⟨g, o + j * 3 + 1, none⟩ = some (.int .i64 l2[j].pl) := zAh R0 (HQ.out.b.mono HBB.out) hg' 1 _ rfl
      have NF : decide (l2[j].pa = x.pa ∧ l2[j].pl = x.pl) = false := NE
      generalize l2[j] = y at y0 y1 NF
      clear NE
      have qe : ∀ w, (binOp .eql 72 (.agg #[.int .u32 (y.pa : Int), .int .i64 y.pl]) (.agg #[.int .u32 (x.pa : Int), .int .i64 x.pl])).run Tryz.prog w = .ok (.bool false) w := fun w => by rw [zFr y.pa x.pa y.pl x.pl w, NF]
      have gp := Tryz.pfxGuard
      all_goals
       clear R0 e2 e3
       go_wp2_with fail
       go_still (by kernel_rfl)
       go_wp2_with fail
       go_roundg (k - (j + 1))
       case measure => omega
       case rel => exact ⟨j + 1, by omega, by go_num, hid (HQ.out.keep (zAw wr))⟩
     have hjz : ¬ ((j : Int) < (k : Int)) := by omega
     go_wp2_with fail
     go_roundg (l2.length - (k + 1))
     case measure => omega
     case rel => exact ⟨k + 1, by omega, by go_num, HQ⟩
  have hkz : (k : Int) < (l1.length : Int) := by omega
  obtain ⟨g, o, c', e', -, hg, R0⟩ := HS1.out.elem (n := 2) (by decide) (fun _ => rfl) hlt
  injection e' with e1 e2 e3
  subst e1 e3
  obtain ⟨n1, n2⟩ := HO1.out k hlt
  have N2 := hid n2
  have FX := hid (HF1.out _ (List.getElem_mem hlt))
  have XA : Hid (∀ W, RQ 39 r.pvC w W → W.cell? ⟨g, o + k * 2, none⟩ = some (.int .u32 (l1[k].pa : Int)) ∧ W.cell? ⟨g, o + k * 2 + 1, none⟩ = some (.int .i64 l1[k].pl)) := hid (fun W h => have hb := h.b.mono HBB.out; ⟨(hb.cell (p := ⟨g, o + k * 2, none⟩) hg).trans (R0 0 _ rfl), (hb.cell (p := ⟨g, o + k * 2 + 1, none⟩) hg).trans (R0 1 _ rfl)⟩)
  have k2 := net_ok n1
  have hvd := zEw l1[k].pa l1[k].pl wr FX.out
  rw [k2] at hvd
  unfold PV at hvd
  have HVD := hid hvd
  clear R0 e2 n1 n2 hvd k2
  generalize l1[k] = x at *
  obtain ⟨x0, x1⟩ := XA.out wr HB.out
  go_wp2_with fail
  refine HVD.out.mono ?_
  rintro e wz ⟨rfl, hb⟩
  have HZ := hid (HB.out.keep hb)
  clear hb x0 x1 HVD HB cl
  go_wp2_with fail
  go_loopg [4] k (fun gh ix wq => ∃ j : Nat, j + gh = k ∧ ix = .int .i64 j ∧ Hid (RQ 39 r.pvC w wq))
  case atStart => exact ⟨0, by omega, rfl, HZ⟩
  case round =>
   clear HZ
   obtain ⟨j, hj, rfl, HQ⟩ := hrel
   have cl := CL1.out wr HQ.out
   obtain ⟨x0, x1⟩ := XA.out wr HQ.out
   by_cases hjl : j < k
   case pos =>
    have hjn : j < l1.length := by omega
    have hjz : (j : Int) < (k : Int) := by omega
    have hjm : (j : Int) < (l1.length : Int) := by omega
    obtain ⟨g', o', c'', e', -, hg', R0⟩ := HS1.out.elem (n := 2) (by decide) (fun _ => rfl) hjn
    injection e' with e1 e2 e3
    injection e1 with e1
    injection e1 with e1 e4
    subst e1 e4
    have NE := N2.out j hjn hjl
    have y0 : wr.cell? ⟨g, o + j * 2, none⟩ = some (.int .u32 (l1[j].pa : Int)) := zAh R0 (HQ.out.b.mono HBB.out) hg' 0 _ rfl
    have y1 : wr.cell? ⟨g, o + j * 2 + 1, none⟩ = some (.int .i64 l1[j].pl) := zAh R0 (HQ.out.b.mono HBB.out) hg' 1 _ rfl
    have NF : decide (l1[j].pa = x.pa ∧ l1[j].pl = x.pl) = false := (decide_eq_decide.2 ⟨fun h => ⟨h.1.symm, h.2.symm⟩, fun h => ⟨h.1.symm, h.2.symm⟩⟩).trans NE
    generalize l1[j] = y at y0 y1 NF
    clear NE
    have qe : ∀ w, (binOp .eql 72 (.agg #[.int .u32 (y.pa : Int), .int .i64 y.pl]) (.agg #[.int .u32 (x.pa : Int), .int .i64 x.pl])).run Tryz.prog w = .ok (.bool false) w := fun w => by rw [zFr y.pa x.pa y.pl x.pl w, NF]
    have gp := Tryz.pfxGuard
    all_goals
     clear R0 e2 e3
     go_wp2_with fail
     go_still (by kernel_rfl)
     go_wp2_with fail
     go_roundg (k - (j + 1))
     case measure => omega
     case rel => exact ⟨j + 1, by omega, by go_num, hid (HQ.out.keep (zAw wr))⟩
   have hjz : ¬ ((j : Int) < (k : Int)) := by omega
   go_wp2_with fail
   go_roundg (l1.length - (k + 1))
   case measure => omega
   case rel => exact ⟨k + 1, by omega, by go_num, HQ⟩
set_option maxRecDepth 100000 in
theorem rpath_ok (r : Rt) (w : World) (B : Nat) (hB : B ≤ w.heap.size) (h : r.at w B) (hf1 : ∀ x ∈ r.net, x.fit) (hf2 : ∀ x ∈ r.ag, x.fit) (hf3 : ∀ x ∈ r.cd, x.fit) (hz : pvE r = 0) : Calls Tryz.prog 30 #[.agg r.C] w fun e w' => e = .returned (.int .i64 0) ∧ Below w.heap.size w w' := by
 have HBB := hid hB
 have H0 := RB.start r w
 have HWI := hid zCg
 have HR := hid h
 have HZR := hid hz
 obtain ⟨A1, c1, hv1, -⟩ := id h.hnb
 obtain ⟨A2, c2, hv2, -⟩ := id h.hnet
 obtain ⟨A3, c3, hv3, -⟩ := id h.hag
 obtain ⟨A4, c4, hv4, -⟩ := id h.hcd
 obtain ⟨A5, c5, hv5, -⟩ := id h.hpvRed
 have HLR := h.hpvRed
 rw [hv5] at HLR
 replace HLR := hid HLR
 have EP : r.pvC = #[.bool r.pvOn, .int .i64 r.ext, .int .i64 r.int, .slice A1 r.nb.length c1, .slice A2 r.net.length c2, .slice A3 r.ag.length c3, .slice A4 r.cd.length c4, .slice A5 r.pvRed.length c5] := by unfold Rt.pvC; rw [hv1, hv2, hv3, hv4, hv5]
 have PO := hid (fun W (hb : Below w.heap.size w W) (ho : origE r = 0) => rorig_ok r W B (Nat.le_trans hB hb.size) (h.below (hb.mono hB)) hf1 hf2 hf3 ho)
 rw [EP] at PO
 clear EP hz
 have HO : (#[.bool r.pvOn, .int .i64 r.ext, .int .i64 r.int, .slice A1 r.nb.length c1, .slice A2 r.net.length c2, .slice A3 r.ag.length c3, .slice A4 r.cd.length c4, .slice A5 r.pvRed.length c5] : Array Value).all (·.oneCell') = true := by
  rw [Array.all_eq_true_iff_forall_mem]
  intro v hv
  simp only [List.mem_toArray, List.mem_cons, List.not_mem_nil, or_false] at hv
  rcases hv with rfl | rfl | rfl | rfl | rfl | rfl | rfl | rfl <;> rfl
 have HSh := hid (H0.h.subM 17 #[.bool r.pvOn, .int .i64 r.ext, .int .i64 r.int, .slice A1 r.nb.length c1, .slice A2 r.net.length c2, .slice A3 r.ag.length c3, .slice A4 r.cd.length c4, .slice A5 r.pvRed.length c5] (fun j hj => by
  have hj' : j < 8 := hj
  rcases (show j = 0 ∨ j = 1 ∨ j = 2 ∨ j = 3 ∨ j = 4 ∨ j = 5 ∨ j = 6 ∨ j = 7 by omega) with rfl | rfl | rfl | rfl | rfl | rfl | rfl | rfl <;> first | rfl | (show some _ = some _; simp only [Option.some.injEq]; assumption)))
 have H0h := hid H0
 clear H0 hv1 hv2 hv3 hv4 hv5 h hB hf1 hf2 hf3
 go_enter Tryz.func30, Tryz.ntmps30
 go_upto_region 2 with (refine zAa rfl 39 _ rfl rfl HSh.out Tryz.rowPV Tryz.sizePV ?_)
 have H5 : Hid (RBL r w 39 (w.alloc (.cells r.C 41)).heap.size #[.bool r.pvOn, .int .i64 r.ext, .int .i64 r.int, .slice A1 r.nb.length c1, .slice A2 r.net.length c2, .slice A3 r.ag.length c3, .slice A4 r.cd.length c4, .slice A5 r.pvRed.length c5] ((w.alloc (.cells r.C 41)).alloc (.cells #[.bool r.pvOn, .int .i64 r.ext, .int .i64 r.int, .slice A1 r.nb.length c1, .slice A2 r.net.length c2, .slice A3 r.ag.length c3, .slice A4 r.cd.length c4, .slice A5 r.pvRed.length c5] 39))) := hid ⟨(H0h.out.keep ((Below.refl _ _).alloc (Nat.le_refl _) _)).h, (H0h.out.keep ((Below.refl _ _).alloc (Nat.le_refl _) _)).b, HasC.new _ _ _⟩
 clear H0h HSh HO
 generalize hw5 : (w.alloc (.cells r.C 41)).alloc (.cells #[.bool r.pvOn, .int .i64 r.ext, .int .i64 r.int, .slice A1 r.nb.length c1, .slice A2 r.net.length c2, .slice A3 r.ag.length c3, .slice A4 r.cd.length c4, .slice A5 r.pvRed.length c5] 39) = w5 at H5 ⊢
 clear hw5
 rw [show (w.alloc (.cells r.C 41)).heap.size = w.heap.size + 1 from by simp] at H5
 generalize w.heap.size + 1 = gl at H5 ⊢
 have lc0 : w5.cell? ⟨gl, 0, none⟩ = some (.bool r.pvOn) := H5.out.l.cell 0
 have lc1 : w5.cell? ⟨gl, 1, none⟩ = some (.int .i64 r.ext) := H5.out.l.cell 1
 have lc2 : w5.cell? ⟨gl, 2, none⟩ = some (.int .i64 r.int) := H5.out.l.cell 2
 have lc3 : w5.cell? ⟨gl, 3, none⟩ = some (.slice A1 r.nb.length c1) := H5.out.l.cell 3
 have lc4 : w5.cell? ⟨gl, 4, none⟩ = some (.slice A2 r.net.length c2) := H5.out.l.cell 4
 have lc5 : w5.cell? ⟨gl, 5, none⟩ = some (.slice A3 r.ag.length c3) := H5.out.l.cell 5
 have lc6 : w5.cell? ⟨gl, 6, none⟩ = some (.slice A4 r.cd.length c4) := H5.out.l.cell 6
 have lc7 : w5.cell? ⟨gl, 7, none⟩ = some (.slice A5 r.pvRed.length c5) := H5.out.l.cell 7
 rcases pv_ok HZR.out with ⟨o1, o2, o3, o4, o5, o6, o7, o8⟩ | ⟨o1, o2, o3, o4, o5, o6, o7⟩
 ·rw [o1] at lc0
  rw [o2] at lc1
  rw [o3] at lc2
  rw [o4] at lc3
  rw [o5] at lc4
  rw [o6] at lc5
  rw [o7] at lc6
  rw [o8] at lc7
  clear HR HLR HZR PO
  go_wp2_with fail
  go_ret
  exact ⟨rfl, H5.out.b⟩
 rw [o1] at lc0
 clear o1
 have a1 : w5.cell? ⟨w.heap.size, 1, none⟩ = some (.int .i64 r.asn) := H5.out.h.cell 1
 have O5 := hid o5
 have O6 := hid (PO.out · · o6)
 have O7 := hid o7
 have CL7 : Hid (∀ W, RBL r w 39 gl #[.bool r.pvOn, .int .i64 r.ext, .int .i64 r.int, .slice A1 r.nb.length c1, .slice A2 r.net.length c2, .slice A3 r.ag.length c3, .slice A4 r.cd.length c4, .slice A5 r.pvRed.length c5] W → W.cell? ⟨gl, 7, none⟩ = some (.slice A5 r.pvRed.length c5)) := hid (fun W h => h.l.cell 7)
 clear o5 o6 o7 HZR PO lc3 lc4 lc5 lc6 lc7
 go_wp2_with (first | (go_at_call 20; refine (HWI.out _ _ _ _).mono ?_; rintro e w' ⟨rfl, rfl⟩) | (first | (refine zAa rfl 41 _ rfl rfl H5.out.h.range Tryz.rowRt Tryz.sizeRt ?_) | (refine zAk (by rfl) (zAa rfl 41 _ rfl rfl H5.out.h.range Tryz.rowRt Tryz.sizeRt ?_))))
 with_reducible refine (rneighbors_ok r w5 B (Nat.le_trans HBB.out H5.out.b.size) (HR.out.below (H5.out.b.mono HBB.out)) O5.out).mono ?_
 rintro e w6 ⟨rfl, hb⟩
 have H6 := hid (H5.out.keep hb)
 clear hb lc0 lc1 lc2 a1 H5
 go_wp2_with (refine zAa rfl 39 _ rfl rfl H6.out.l.range Tryz.rowPV Tryz.sizePV ?_)
 with_reducible refine (O6.out w6 H6.out.b).mono ?_
 rintro e w7 ⟨rfl, hb⟩
 have H7 := hid (H6.out.keep hb)
 clear hb H6
 have lz := CL7.out w7 H7.out
 go_wp2_with (first | (refine zAa rfl 41 _ rfl rfl H7.out.h.range Tryz.rowRt Tryz.sizeRt ?_) | (refine zAk (by rfl) (zAa rfl 41 _ rfl rfl H7.out.h.range Tryz.rowRt Tryz.sizeRt ?_)))
 with_reducible refine (zKa r r.pvRed (.slice A5 r.pvRed.length c5) 5 0 16777215 0 (.inr ⟨by decide, rfl⟩) w7 B (Nat.le_trans HBB.out H7.out.b.size) (HR.out.below (H7.out.b.mono HBB.out)) (HLR.out.below (H7.out.b.mono HBB.out)) O7.out).mono ?_
 rintro e w8 ⟨rfl, hb⟩
 have H8 := hid (H7.out.keep hb)
 clear hb lz
 go_wp2_with fail
 go_ret
 exact ⟨rfl, H8.out.b⟩
set_option maxRecDepth 100000 in
theorem rcheck_ok (r : Rt) (w : World) (B : Nat) (hB : B ≤ w.heap.size) (h : r.at w B) (hf : r.fit) (hz : zDv r = 0) : Calls Tryz.prog 11 #[.agg r.C] w fun e w' => e = .returned (.int .i64 0) ∧ Below w.heap.size w w' := by
 obtain ⟨z1, z2, z3, z4, z5, z6, z7, z8, z9, z10, z11, z12⟩ := router_ok hz
 unfold Rt.fit at hf
 have h2 : ∀ W, RB r w W → r.at W B := fun W hW => h.below (hW.b.mono hB)
 have HWI := hid zCg
 have P0 : Hid (∀ W, RB r w W → Calls Tryz.prog 21 #[r.ifsV] W fun e w' => e = .returned (.int .i64 0) ∧ RB r w w') := hid (fun W hW => have hs := Nat.le_trans hB hW.b.size; (rinterfaces_ok r.ifs r.ifsV W B hs (h2 W hW).hifs hf.1 z3).mono fun e w' ⟨he, hb⟩ => ⟨he, hW.keep hb⟩)
 have P1 : Hid (∀ W, RB r w W → Calls Tryz.prog 22 #[r.listsV] W fun e w' => e = .returned (.int .i64 0) ∧ RB r w w') := hid (fun W hW => have hs := Nat.le_trans hB hW.b.size; (rprefixLists_ok r.lists r.listsV W B hs (h2 W hW).hlists (h2 W hW).nlists hf.2.1 z4).mono fun e w' ⟨he, hb⟩ => ⟨he, hW.keep hb⟩)
 have P2 : Hid (∀ W, RB r w W → Calls Tryz.prog 23 #[.agg r.C] W fun e w' => e = .returned (.int .i64 0) ∧ RB r w w') := hid (fun W hW => have hs := Nat.le_trans hB hW.b.size; (rrouteMaps_ok r W B hs (h2 W hW) z5).mono fun e w' ⟨he, hb⟩ => ⟨he, hW.keep hb⟩)
 have P3 : Hid (∀ W, RB r w W → Calls Tryz.prog 24 #[r.aclsV] W fun e w' => e = .returned (.int .i64 0) ∧ RB r w w') := hid (fun W hW => have hs := Nat.le_trans hB hW.b.size; (raccessLists_ok r.acls r.aclsV W B hs (h2 W hW).hacls (h2 W hW).nacls hf.2.2.2.1 z6).mono fun e w' ⟨he, hb⟩ => ⟨he, hW.keep hb⟩)
 have P4 : Hid (∀ W, RB r w W → Calls Tryz.prog 25 #[.agg r.C] W fun e w' => e = .returned (.int .i64 0) ∧ RB r w w') := hid (fun W hW => have hs := Nat.le_trans hB hW.b.size; (zKp r W B hs (h2 W hW) hf.2.2.2.2.1 z7).mono fun e w' ⟨he, hb⟩ => ⟨he, hW.keep hb⟩)
 have P5 : Hid (∀ W, RB r w W → Calls Tryz.prog 26 #[.agg r.C] W fun e w' => e = .returned (.int .i64 0) ∧ RB r w w') := hid (fun W hW => have hs := Nat.le_trans hB hW.b.size; (rfilters_ok r W B hs (h2 W hW) hf.1 z8).mono fun e w' ⟨he, hb⟩ => ⟨he, hW.keep hb⟩)
 have P6 : Hid (∀ W, RB r w W → Calls Tryz.prog 27 #[.agg r.C] W fun e w' => e = .returned (.int .i64 0) ∧ RB r w w') := hid (fun W hW => have hs := Nat.le_trans hB hW.b.size; (rstatics_ok r W B hs (h2 W hW) hf.2.2.2.2.2.1 z9).mono fun e w' ⟨he, hb⟩ => ⟨he, hW.keep hb⟩)
 have P7 : Hid (∀ W, RB r w W → Calls Tryz.prog 28 #[.agg r.C] W fun e w' => e = .returned (.int .i64 0) ∧ RB r w w') := hid (fun W hW => have hs := Nat.le_trans hB hW.b.size; (rlink_ok r W B hs (h2 W hW) hf.2.2.2.2.2.2.1 z10).mono fun e w' ⟨he, hb⟩ => ⟨he, hW.keep hb⟩)
 have P8 : Hid (∀ W, RB r w W → Calls Tryz.prog 29 #[.agg r.C] W fun e w' => e = .returned (.int .i64 0) ∧ RB r w w') := hid (fun W hW => have hs := Nat.le_trans hB hW.b.size; (rdistance_ok r W B hs (h2 W hW) z11).mono fun e w' ⟨he, hb⟩ => ⟨he, hW.keep hb⟩)
 have P9 : Hid (∀ W, RB r w W → Calls Tryz.prog 30 #[.agg r.C] W fun e w' => e = .returned (.int .i64 0) ∧ RB r w w') := hid (fun W hW => have hs := Nat.le_trans hB hW.b.size; (rpath_ok r W B hs (h2 W hW) hf.2.2.2.2.2.2.2.2.2.2.1 hf.2.2.2.2.2.2.2.2.2.2.2.1 hf.2.2.2.2.2.2.2.2.2.2.2.2.1 z12).mono fun e w' ⟨he, hb⟩ => ⟨he, hW.keep hb⟩)
 have HB := hid (RB.start r w)
 clear h hf hz h2 hB z3 z4 z5 z6 z7 z8 z9 z10 z11 z12
 have CE : Hid (∀ W, RB r w W → W.cell? ⟨w.heap.size, 2, none⟩ = some r.ifsV ∧ W.cell? ⟨w.heap.size, 3, none⟩ = some r.listsV ∧ W.cell? ⟨w.heap.size, 5, none⟩ = some r.aclsV) := hid (fun W h => ⟨h.h.cell 2, h.h.cell 3, h.h.cell 5⟩)
 have c0 : (w.alloc (.cells r.C 41)).cell? ⟨w.heap.size, 0, none⟩ = some (.string (str r.name)) := HB.out.h.cell 0
 have c1 : (w.alloc (.cells r.C 41)).cell? ⟨w.heap.size, 1, none⟩ = some (.int .i64 r.asn) := HB.out.h.cell 1
 go_enter Tryz.func11, Tryz.ntmps11
 go_wp2_with fail
 refine (rnameL r.name _).mono ?_
 rintro e w' ⟨rfl, rfl⟩
 rw [z1]
 go_wp2_with (go_at_call 20; refine (HWI.out _ _ _ _).mono ?_; rintro e w' ⟨rfl, rfl⟩)
 clear c0 c1 z1 z2
 refine wp_region_seqT (fun W => RB r w W) 23 (by kernel_rfl) (by kernel_rfl) (HB.out.keep (zAw _)) ?_
 clear HB
 repeat
  (first
   | refine seqT_yields (zHr (by rfl) 41 _ rfl rfl (fun W hW => hW.h.range) Tryz.rowRt Tryz.sizeRt) ?_
   | (refine seqT_value (v := ?_) ?_ ?_ ?_; rotate_left; (· rfl); (· (intro W hW; obtain ⟨k1, k2, k3⟩ := CE.out W hW; go_simp <;> rfl)))
   | (refine zEa ?_ ?_ (fun W hW => P0.out W hW) ?_; (· rfl); (· (intro W hW; go_simp <;> rfl)))
   | (refine zEa ?_ ?_ (fun W hW => P1.out W hW) ?_; (· rfl); (· (intro W hW; go_simp <;> rfl)))
   | (refine zEa ?_ ?_ (fun W hW => P2.out W hW) ?_; (· rfl); (· (intro W hW; go_simp <;> rfl)))
   | (refine zEa ?_ ?_ (fun W hW => P3.out W hW) ?_; (· rfl); (· (intro W hW; go_simp <;> rfl)))
   | (refine zEa ?_ ?_ (fun W hW => P4.out W hW) ?_; (· rfl); (· (intro W hW; go_simp <;> rfl)))
   | (refine zEa ?_ ?_ (fun W hW => P5.out W hW) ?_; (· rfl); (· (intro W hW; go_simp <;> rfl)))
   | (refine zEa ?_ ?_ (fun W hW => P6.out W hW) ?_; (· rfl); (· (intro W hW; go_simp <;> rfl)))
   | (refine zEa ?_ ?_ (fun W hW => P7.out W hW) ?_; (· rfl); (· (intro W hW; go_simp <;> rfl)))
   | (refine zEa ?_ ?_ (fun W hW => P8.out W hW) ?_; (· rfl); (· (intro W hW; go_simp <;> rfl)))
   | (refine zEa ?_ ?_ (fun W hW => P9.out W hW) ?_; (· rfl); (· (intro W hW; go_simp <;> rfl))))
  simp only [Act.put, List.setIfInBounds_toArray, List.set_cons_zero, List.set_cons_succ]
 refine seqT_done ?_
 intro wq hS
 change wpList _ _ _ (_ :: _ :: []) _ _
 have H1 := hid (hS.keep ((Below.refl _ _).alloc (Nat.le_refl _) (.cells #[.int .i64 0, .int .i64 0, .int .i64 0, .int .i64 0, .int .i64 0, .int .i64 0, .int .i64 0, .int .i64 0, .int .i64 0, .int .i64 0] 42)))
 have HC : Hid (∀ k, k < 10 → (wq.alloc (.cells #[.int .i64 0, .int .i64 0, .int .i64 0, .int .i64 0, .int .i64 0, .int .i64 0, .int .i64 0, .int .i64 0, .int .i64 0, .int .i64 0] 42)).cell? ⟨wq.heap.size, k, none⟩ = some (.int .i64 0)) := hid (fun k hk => ((HasC.new _ _ _).cell k).trans (by
  rcases (show k = 0 ∨ k = 1 ∨ k = 2 ∨ k = 3 ∨ k = 4 ∨ k = 5 ∨ k = 6 ∨ k = 7 ∨ k = 8 ∨ k = 9 by omega) with rfl | rfl | rfl | rfl | rfl | rfl | rfl | rfl | rfl | rfl <;> rfl))
 clear hS CE P0 P1 P2 P3 P4 P5 P6 P7 P8 P9
 go_wp2_with fail
 generalize wq.alloc (.cells #[.int .i64 0, .int .i64 0, .int .i64 0, .int .i64 0, .int .i64 0, .int .i64 0, .int .i64 0, .int .i64 0, .int .i64 0, .int .i64 0] 42) = wA at H1 HC ⊢
 generalize wq.heap.size = gs at HC ⊢
 go_loopg [4] 10 (fun gh ix wr => wr = wA ∧ ∃ k : Nat, k + gh = 10 ∧ ix = .int .i64 k)
 case atStart => exact ⟨rfl, 0, by omega, rfl⟩
 case round =>
  obtain ⟨rfl, k, hk, rfl⟩ := hrel
  by_cases hlt : k < 10
  case neg =>
   have hkz : ¬ ((k : Int) < 10) := by omega
   go_wp2_with fail
   go_ret
   exact ⟨rfl, H1.out.b⟩
  have hkz : (k : Int) < 10 := by omega
  have ck := HC.out k hlt
  go_wp2_with fail
  go_roundg (10 - (k + 1))
  case measure => omega
  case rel => exact ⟨rfl, k + 1, by omega, by go_num⟩
end Go.Proofs.YtoceoaiokkbjeaaGreatDoor
