/- The reference's filters, translations, statics, of a valid router. Conditions: the router lies in memory, addresses are numbers below 2^32. -/
import Derived.Test.YtoceoaiokkbjeaaGreatDoorWaq
import Derived.StillTailTactics
set_option maxRecDepth 8000
set_option maxHeartbeats 8000000
namespace Go.Proofs.YtoceoaiokkbjeaaGreatDoor
open Lib (hid)
open Go.RowKit
theorem prE_ok {x : PRule} (h : prE x = 0) : zGx x = true := by
 unfold prE at h
 cases hr : zGx x with
 | true => rfl
 | false => rw [hr] at h; cases h
theorem ruE_ok {x : Ru} (h : ruE x = 0) : zGe x = true := by
 unfold ruE at h
 cases hr : zGe x with
 | true => rfl
 | false => rw [hr] at h; cases h
theorem zGc {α : Type} {name : α → List UInt8} {l : List α} {n : List UInt8} (h : zBd name l n = false) (hn : n ≠ []) : decide (idxF (fun y => name y == n) l 0 < 0) = false := by
 unfold zBd at h
 rw [(zCv hn).1] at h
 simpa using h
theorem clE_ok {lists : List PList} {c : Cl} (h : clE lists c = 0) : (c.list ≠ [] → decide (idxF (fun y => y.name == c.list) lists 0 < 0) = false) ∧ zAg c.tag (-1) 65535 = true ∧ zAg c.setM (-1) 16777215 = true ∧ zAg c.setT (-1) 65535 = true ∧ zAg c.setP (-1) 1000000 = true ∧ zAg c.prep 0 8 = true := by
 unfold clE at h
 cases hl : (!c.list.isEmpty && decide (idxF (fun y => y.name == c.list) lists 0 < 0)) with
 | true => rw [hl] at h; cases h
 | false =>
 rw [hl] at h
 cases hr : zFy c with
 | false => rw [hr] at h; cases h
 | true =>
 unfold zFy at hr
 simp only [Bool.and_eq_true] at hr
 exact ⟨fun hn => zGc (name := fun y : PList => y.name) hl hn, hr.1.1.1.1, hr.1.1.1.2, hr.1.1.2, hr.1.2, hr.2⟩
theorem rvru_ok (x : Ru) (h : zGe x = true) (hx : x.fit) (w : World) : Calls Tryz.prog 49 #[.agg x.C] w fun e w' => e = .returned (.bool true) ∧ Below w.heap.size w w' := by
 have HWI := hid zCg
 have HP := hid rports_any
 have HA := hid rall_any
 have H0 := hid (HasC.new w 110 x.C)
 have B0 := hid ((Below.refl w.heap.size w).alloc (Nat.le_refl _) (.cells x.C 110))
 unfold zGe at h
 simp only [Bool.and_eq_true, beq_iff_eq] at h
 obtain ⟨⟨⟨⟨⟨h1, h2⟩, h3⟩, h4⟩, h5⟩, h6⟩ := h
 obtain ⟨f1, f2, f3, f4⟩ := hx
 have b1 : bits .and .u32 (x.sa : Int) (x.sm : Int) = 0 := by have q := u32_and_nat _ _ f1 f2; rw [h2] at q; exact q
 have b2 : bits .and .u32 (x.da : Int) (x.dm : Int) = 0 := by have q := u32_and_nat _ _ f3 f4; rw [h3] at q; exact q
 have H4 := hid h4
 have H5 := hid h5
 have H6 := hid h6
 clear f1 f2 f3 f4 h2 h3 h4 h5 h6
 unfold Ru.C at H0 B0 ⊢
 obtain ⟨permit, proto, sa, sm, da, dm, slo, shi, dlo, dhi⟩ := x
 dsimp only at *
 go_enter Tryz.func49, Tryz.ntmps49
 go_wp2_with (go_at_call 20; refine (HWI.out _ _ _ _).mono ?_; rintro e w' ⟨rfl, rfl⟩)
 refine (HP.out slo shi _).mono ?_
 rintro e w1 ⟨rfl, hb⟩
 rw [H4.out]
 have H1 := hid (H0.out.keep hb)
 have B1 := hid (B0.out.trans (hb.mono (by simp)))
 have c8 : w1.cell? ⟨w.heap.size, 8, none⟩ = some (.int .i64 dlo) := H1.out.cell 8
 have c9 : w1.cell? ⟨w.heap.size, 9, none⟩ = some (.int .i64 dhi) := H1.out.cell 9
 clear hb H0 B0
 go_wp2_with fail
 refine (HP.out dlo dhi _).mono ?_
 rintro e w2 ⟨rfl, hb⟩
 rw [H5.out]
 have H2 := hid (H1.out.keep hb)
 have B2 := hid (B1.out.trans (hb.mono B1.out.size))
 clear hb H1 B1 c8 c9
 have c1 : w2.cell? ⟨w.heap.size, 1, none⟩ = some (.int .i64 proto) := H2.out.cell 1
 have c6 : w2.cell? ⟨w.heap.size, 6, none⟩ = some (.int .i64 slo) := H2.out.cell 6
 have c7 : w2.cell? ⟨w.heap.size, 7, none⟩ = some (.int .i64 shi) := H2.out.cell 7
 by_cases h6 : proto = 6
 ·subst h6
  go_wp2_with fail
  go_ret
  exact ⟨rfl, B2.out⟩
 have d6 : (proto == 6) = false := by simpa using h6
 by_cases h17 : proto = 17
 ·subst h17
  go_wp2_with fail
  go_ret
  exact ⟨rfl, B2.out⟩
 have d17 : (proto == 17) = false := by simpa using h17
 have HL := H6.out
 rw [d6, d17] at HL
 simp only [Bool.false_or, Bool.and_eq_true] at HL
 have HL1 := hid HL.1
 have HL2 := hid HL.2
 clear HL h6 h17
 go_wp2_with fail
 refine (HA.out slo shi _).mono ?_
 rintro e w3 ⟨rfl, hb⟩
 rw [HL1.out]
 have H3 := hid (H2.out.keep hb)
 have B3 := hid (B2.out.trans (hb.mono B2.out.size))
 clear hb H2 B2 c1 c6 c7
 have c8 : w3.cell? ⟨w.heap.size, 8, none⟩ = some (.int .i64 dlo) := H3.out.cell 8
 have c9 : w3.cell? ⟨w.heap.size, 9, none⟩ = some (.int .i64 dhi) := H3.out.cell 9
 go_wp2_with fail
 refine (HA.out dlo dhi _).mono ?_
 rintro e w4 ⟨rfl, hb⟩
 rw [HL2.out]
 have B4 := hid (B3.out.trans (hb.mono B3.out.size))
 clear hb
 go_wp2_with fail
 go_ret
 exact ⟨rfl, B4.out⟩
set_option maxRecDepth 100000 in
theorem rprefixLists_ok (l : List PList) (v : Value) (w : World) (B : Nat) (hB : B ≤ w.heap.size) (hl : SlV w B 2 PList.C v l) (hn : ∀ x ∈ l, x.at w B) (hf : ∀ x ∈ l, x.fit) (hz : plsE l = 0) : Calls Tryz.prog 22 #[v] w fun e w' => e = .returned (.int .i64 0) ∧ Below w.heap.size w w' := by
 have HBB := hid hB
 have HN := hid hn
 have HF := hid hf
 have HB := hid (Below.refl w.heap.size w)
 obtain ⟨h8, hO⟩ := ls_ok hz
 obtain ⟨A, c, rfl, -⟩ := id hl
 clear hn hf
 have HO := hid hO
 have HS := hid hl
 have d8 : ¬ ((8 : Int) < (l.length : Int)) := by omega
 clear hz hO hl
 go_enter Tryz.func22, Tryz.ntmps22
 go_wp2_with fail
 clear d8
 go_loopg [3] l.length (fun gh ix wr => ∃ k : Nat, k + gh = l.length ∧ ix = .int .i64 k ∧ Hid (Below w.heap.size w wr))
 case atStart => exact ⟨0, by omega, rfl, HB⟩
 case round =>
  clear HB
  obtain ⟨k, hk, rfl, HB⟩ := hrel
  by_cases hlt : k < l.length
  case neg =>
   have hkz : ¬ ((k : Int) < (l.length : Int)) := by omega
   go_wp2_with fail
   go_ret
   exact ⟨rfl, HB.out⟩
  have hkz : (k : Int) < (l.length : Int) := by omega
  obtain ⟨n1, n2, n3, n4, n5⟩ := HO.out k hlt
  obtain ⟨g, o, c', e', -, hg, R0⟩ := HS.out.elem (n := 2) (by decide) (fun _ => rfl) hlt
  injection e' with e1 e2 e3
  subst e1 e3
  obtain ⟨A2, c2, hv2, -⟩ := id (HN.out _ (List.getElem_mem hlt))
  have HNK := hid (HN.out _ (List.getElem_mem hlt))
  have HFK := hid (HF.out _ (List.getElem_mem hlt))
  unfold PList.at at HNK
  rw [hv2] at HNK
  have XA : Hid (∀ W, Below w.heap.size w W → W.cell? ⟨g, o + k * 2, none⟩ = some (.string (str l[k].name)) ∧ W.cell? ⟨g, o + k * 2 + 1, none⟩ = some (.slice A2 l[k].rules.length c2)) := hid (fun W hW => ⟨zAh R0 (hW.mono HBB.out) hg 0 _ rfl, by rw [← hv2]; exact zAh R0 (hW.mono HBB.out) hg 1 _ rfl⟩)
  have N2 := hid n2
  have N5 := hid (zGu n5)
  clear R0 e2 hv2 n2 n5
  unfold PList.fit at HFK
  generalize l[k].name = nm at n1 N2 XA
  generalize l[k].rules = rs at *
  obtain ⟨xa, xv⟩ := XA.out wr HB.out
  go_wp2_with fail
  refine (rnameL nm wr).mono ?_
  rintro e w' ⟨rfl, rfl⟩
  rw [n1]
  go_wp2_with fail
  clear xa xv n1
  go_loopg [4] k (fun gh ix wq => ∃ j : Nat, j + gh = k ∧ ix = .int .i64 j ∧ Hid (Below w.heap.size w wq))
  case atStart => exact ⟨0, by omega, rfl, HB⟩
  case round =>
   clear HB
   obtain ⟨j, hj, rfl, HQ⟩ := hrel
   obtain ⟨xa, xv⟩ := XA.out wr HQ.out
   by_cases hjl : j < k
   case pos =>
    have hjn : j < l.length := by omega
    have hjz : (j : Int) < (k : Int) := by omega
    have hjm : (j : Int) < (l.length : Int) := by omega
    obtain ⟨g', o', c'', e', -, hg', R0⟩ := HS.out.elem (n := 2) (by decide) (fun _ => rfl) hjn
    injection e' with e1 e2 e3
    injection e1 with e1
    injection e1 with e1 e4
    subst e1 e4
    have y0 : wr.cell? ⟨g, o + j * 2, none⟩ = some (.string (str l[j].name)) := zAh R0 (HQ.out.mono HBB.out) hg' 0 _ rfl
    have hs : ((str l[j].name).toList == (str nm).toList) = false := by rw [zAb, zAb]; exact N2.out j hjn hjl
    generalize l[j].name = mm at y0 hs
    clear R0 e2 e3
    go_wp2_with fail
    go_still (by kernel_rfl)
    go_wp2_with fail
    go_roundg (k - (j + 1))
    case measure => omega
    case rel => exact ⟨j + 1, by omega, by go_num, hid (HQ.out.trans (Below.mono (zAw wr) HQ.out.size))⟩
   have hjz : ¬ ((j : Int) < (k : Int)) := by omega
   have hr0 : ((rs.length : Int) == 0) = false := by simpa using n3
   have hr1 : ¬ ((16 : Int) < (rs.length : Int)) := by omega
   go_wp2_with fail
   clear xa xv hr0 hr1
   go_loopg [5] rs.length (fun gh ix wq => ∃ i : Nat, i + gh = rs.length ∧ ix = .int .i64 i ∧ Hid (Below w.heap.size w wq))
   case atStart => exact ⟨0, by omega, rfl, HQ⟩
   case round =>
    clear HQ
    obtain ⟨i, hi, rfl, HQ⟩ := hrel
    obtain ⟨xa, xv⟩ := XA.out wr HQ.out
    by_cases hil : i < rs.length
    case neg =>
     have hiz : ¬ ((i : Int) < (rs.length : Int)) := by omega
     go_wp2_with fail
     go_roundg (l.length - (k + 1))
     case measure => omega
     case rel => exact ⟨k + 1, by omega, by go_num, HQ⟩
    have hiz : (i : Int) < (rs.length : Int) := by omega
    obtain ⟨g2, o2, c3, e', -, hg2, R0⟩ := HNK.out.elem (n := 5) (by decide) (fun _ => rfl) hil
    injection e' with e1 e2 e3
    subst e1 e3
    have r1 := hid (zAh R0 (HQ.out.mono HBB.out) hg2)
    have OK := hid (N5.out _ (List.getElem_mem hil))
    have FX := hid (HFK.out _ (List.getElem_mem hil))
    generalize rs[i] = x at r1 OK FX
    clear R0 e2
    go_wp2_with (first | (refine zAa rfl 96 _ rfl rfl r1.out Tryz.rowPRule Tryz.sizePRule ?_))
    have hv := rvpr_any x FX.out wr
    rw [prE_ok OK.out] at hv
    with_reducible refine hv.mono ?_
    clear hv
    rintro e w6 ⟨rfl, hb⟩
    have H6 := hid (HQ.out.trans (hb.mono HQ.out.size))
    clear hb r1 xa xv
    go_wp2_with fail
    go_roundg (rs.length - (i + 1))
    case measure => omega
    case rel => exact ⟨i + 1, by omega, by go_num, H6⟩
set_option maxRecDepth 100000 in
theorem raccessLists_ok (l : List AList) (v : Value) (w : World) (B : Nat) (hB : B ≤ w.heap.size) (hl : SlV w B 2 AList.C v l) (hn : ∀ x ∈ l, x.at w B) (hf : ∀ x ∈ l, x.fit) (hz : aclsE l = 0) : Calls Tryz.prog 24 #[v] w fun e w' => e = .returned (.int .i64 0) ∧ Below w.heap.size w w' := by
 have HBB := hid hB
 have HN := hid hn
 have HF := hid hf
 have HB := hid (Below.refl w.heap.size w)
 obtain ⟨h8, hO⟩ := ls_ok hz
 obtain ⟨A, c, rfl, -⟩ := id hl
 clear hn hf
 have HO := hid hO
 have HS := hid hl
 have d8 : ¬ ((8 : Int) < (l.length : Int)) := by omega
 clear hz hO hl
 go_enter Tryz.func24, Tryz.ntmps24
 go_wp2_with fail
 clear d8
 go_loopg [3] l.length (fun gh ix wr => ∃ k : Nat, k + gh = l.length ∧ ix = .int .i64 k ∧ Hid (Below w.heap.size w wr))
 case atStart => exact ⟨0, by omega, rfl, HB⟩
 case round =>
  clear HB
  obtain ⟨k, hk, rfl, HB⟩ := hrel
  by_cases hlt : k < l.length
  case neg =>
   have hkz : ¬ ((k : Int) < (l.length : Int)) := by omega
   go_wp2_with fail
   go_ret
   exact ⟨rfl, HB.out⟩
  have hkz : (k : Int) < (l.length : Int) := by omega
  obtain ⟨n1, n2, n3, n4, n5⟩ := HO.out k hlt
  obtain ⟨g, o, c', e', -, hg, R0⟩ := HS.out.elem (n := 2) (by decide) (fun _ => rfl) hlt
  injection e' with e1 e2 e3
  subst e1 e3
  obtain ⟨A2, c2, hv2, -⟩ := id (HN.out _ (List.getElem_mem hlt))
  have HNK := hid (HN.out _ (List.getElem_mem hlt))
  have HFK := hid (HF.out _ (List.getElem_mem hlt))
  unfold AList.at at HNK
  rw [hv2] at HNK
  have XA : Hid (∀ W, Below w.heap.size w W → W.cell? ⟨g, o + k * 2, none⟩ = some (.string (str l[k].name)) ∧ W.cell? ⟨g, o + k * 2 + 1, none⟩ = some (.slice A2 l[k].rules.length c2)) := hid (fun W hW => ⟨zAh R0 (hW.mono HBB.out) hg 0 _ rfl, by rw [← hv2]; exact zAh R0 (hW.mono HBB.out) hg 1 _ rfl⟩)
  have N2 := hid n2
  have N5 := hid (zGu n5)
  clear R0 e2 hv2 n2 n5
  unfold AList.fit at HFK
  generalize l[k].name = nm at n1 N2 XA
  generalize l[k].rules = rs at *
  obtain ⟨xa, xv⟩ := XA.out wr HB.out
  go_wp2_with fail
  refine (rnameL nm wr).mono ?_
  rintro e w' ⟨rfl, rfl⟩
  rw [n1]
  go_wp2_with fail
  clear xa xv n1
  go_loopg [4] k (fun gh ix wq => ∃ j : Nat, j + gh = k ∧ ix = .int .i64 j ∧ Hid (Below w.heap.size w wq))
  case atStart => exact ⟨0, by omega, rfl, HB⟩
  case round =>
   clear HB
   obtain ⟨j, hj, rfl, HQ⟩ := hrel
   obtain ⟨xa, xv⟩ := XA.out wr HQ.out
   by_cases hjl : j < k
   case pos =>
    have hjn : j < l.length := by omega
    have hjz : (j : Int) < (k : Int) := by omega
    have hjm : (j : Int) < (l.length : Int) := by omega
    obtain ⟨g', o', c'', e', -, hg', R0⟩ := HS.out.elem (n := 2) (by decide) (fun _ => rfl) hjn
    injection e' with e1 e2 e3
    injection e1 with e1
    injection e1 with e1 e4
    subst e1 e4
    have y0 : wr.cell? ⟨g, o + j * 2, none⟩ = some (.string (str l[j].name)) := zAh R0 (HQ.out.mono HBB.out) hg' 0 _ rfl
    have hs : ((str l[j].name).toList == (str nm).toList) = false := by rw [zAb, zAb]; exact N2.out j hjn hjl
    generalize l[j].name = mm at y0 hs
    clear R0 e2 e3
    go_wp2_with fail
    go_still (by kernel_rfl)
    go_wp2_with fail
    go_roundg (k - (j + 1))
    case measure => omega
    case rel => exact ⟨j + 1, by omega, by go_num, hid (HQ.out.trans (Below.mono (zAw wr) HQ.out.size))⟩
   have hjz : ¬ ((j : Int) < (k : Int)) := by omega
   have hr0 : ((rs.length : Int) == 0) = false := by simpa using n3
   have hr1 : ¬ ((16 : Int) < (rs.length : Int)) := by omega
   go_wp2_with fail
   clear xa xv hr0 hr1
   go_loopg [5] rs.length (fun gh ix wq => ∃ i : Nat, i + gh = rs.length ∧ ix = .int .i64 i ∧ Hid (Below w.heap.size w wq))
   case atStart => exact ⟨0, by omega, rfl, HQ⟩
   case round =>
    clear HQ
    obtain ⟨i, hi, rfl, HQ⟩ := hrel
    obtain ⟨xa, xv⟩ := XA.out wr HQ.out
    by_cases hil : i < rs.length
    case neg =>
     have hiz : ¬ ((i : Int) < (rs.length : Int)) := by omega
     go_wp2_with fail
     go_roundg (l.length - (k + 1))
     case measure => omega
     case rel => exact ⟨k + 1, by omega, by go_num, HQ⟩
    have hiz : (i : Int) < (rs.length : Int) := by omega
    obtain ⟨g2, o2, c3, e', -, hg2, R0⟩ := HNK.out.elem (n := 10) (by decide) (fun _ => rfl) hil
    injection e' with e1 e2 e3
    subst e1 e3
    have r1 := hid (zAh R0 (HQ.out.mono HBB.out) hg2)
    have OK := hid (N5.out _ (List.getElem_mem hil))
    have FX := hid (HFK.out _ (List.getElem_mem hil))
    generalize rs[i] = x at r1 OK FX
    clear R0 e2
    go_wp2_with (first | (refine zAa rfl 110 _ rfl rfl r1.out Tryz.rowRu Tryz.sizeRu ?_))
    have hv := rvru_ok x (ruE_ok OK.out) FX.out wr
    with_reducible refine hv.mono ?_
    clear hv
    rintro e w6 ⟨rfl, hb⟩
    have H6 := hid (HQ.out.trans (hb.mono HQ.out.size))
    clear hb r1 xa xv
    go_wp2_with fail
    go_roundg (rs.length - (i + 1))
    case measure => omega
    case rel => exact ⟨i + 1, by omega, by go_num, H6⟩
set_option maxRecDepth 100000 in
theorem rrouteMaps_ok (r : Rt) (w : World) (B : Nat) (hB : B ≤ w.heap.size) (h : r.at w B) (hz : mapsE r.lists r.maps = 0) : Calls Tryz.prog 23 #[.agg r.C] w fun e w' => e = .returned (.int .i64 0) ∧ Below w.heap.size w w' := by
 have HBB := hid hB
 have HR := hid h
 have hl := h.hmaps
 have HN := hid h.nmaps
 have HB := hid (RB.start r w)
 have c4 : (w.alloc (.cells r.C 41)).cell? ⟨w.heap.size, 4, none⟩ = some r.mapsV := HB.out.h.cell 4
 obtain ⟨h8, hO⟩ := ls_ok hz
 generalize r.maps = l at *
 obtain ⟨A, c, hv, -⟩ := id hl
 rw [hv] at c4 hl
 have HO := hid hO
 have HS := hid hl
 have d8 : ¬ ((8 : Int) < (l.length : Int)) := by omega
 clear hz hO hl h hv
 go_enter Tryz.func23, Tryz.ntmps23
 go_wp2_with fail
 clear d8 c4
 go_loopg [4] l.length (fun gh ix wr => ∃ k : Nat, k + gh = l.length ∧ ix = .int .i64 k ∧ Hid (RB r w wr))
 case atStart => exact ⟨0, by omega, rfl, HB⟩
 case round =>
  clear HB
  obtain ⟨k, hk, rfl, HB⟩ := hrel
  by_cases hlt : k < l.length
  case neg =>
   have hkz : ¬ ((k : Int) < (l.length : Int)) := by omega
   go_wp2_with fail
   go_ret
   exact ⟨rfl, HB.out.b⟩
  have hkz : (k : Int) < (l.length : Int) := by omega
  obtain ⟨n1, n2, n3, n4, n5⟩ := HO.out k hlt
  obtain ⟨g, o, c', e', -, hg, R0⟩ := HS.out.elem (n := 2) (by decide) (fun _ => rfl) hlt
  injection e' with e1 e2 e3
  subst e1 e3
  obtain ⟨A2, c2, hv2, -⟩ := id (HN.out _ (List.getElem_mem hlt))
  have HNK := hid (HN.out _ (List.getElem_mem hlt))
  unfold RMap.at at HNK
  rw [hv2] at HNK
  have XA : Hid (∀ W, Below w.heap.size w W → W.cell? ⟨g, o + k * 2, none⟩ = some (.string (str l[k].name)) ∧ W.cell? ⟨g, o + k * 2 + 1, none⟩ = some (.slice A2 l[k].clauses.length c2)) := hid (fun W hW => ⟨zAh R0 (hW.mono HBB.out) hg 0 _ rfl, by rw [← hv2]; exact zAh R0 (hW.mono HBB.out) hg 1 _ rfl⟩)
  have N2 := hid n2
  have N5 := hid (zGu n5)
  clear R0 e2 hv2 n2 n5
  generalize l[k].name = nm at n1 N2 XA
  generalize l[k].clauses = rs at *
  obtain ⟨xa, xv⟩ := XA.out wr HB.out.b
  go_wp2_with fail
  refine (rnameL nm wr).mono ?_
  rintro e w' ⟨rfl, rfl⟩
  rw [n1]
  go_wp2_with fail
  clear xa xv n1
  go_loopg [5] k (fun gh ix wq => ∃ j : Nat, j + gh = k ∧ ix = .int .i64 j ∧ Hid (RB r w wq))
  case atStart => exact ⟨0, by omega, rfl, HB⟩
  case round =>
   clear HB
   obtain ⟨j, hj, rfl, HQ⟩ := hrel
   obtain ⟨xa, xv⟩ := XA.out wr HQ.out.b
   by_cases hjl : j < k
   case pos =>
    have hjn : j < l.length := by omega
    have hjz : (j : Int) < (k : Int) := by omega
    have hjm : (j : Int) < (l.length : Int) := by omega
    obtain ⟨g', o', c'', e', -, hg', R0⟩ := HS.out.elem (n := 2) (by decide) (fun _ => rfl) hjn
    injection e' with e1 e2 e3
    injection e1 with e1
    injection e1 with e1 e4
    subst e1 e4
    have y0 : wr.cell? ⟨g, o + j * 2, none⟩ = some (.string (str l[j].name)) := zAh R0 (HQ.out.b.mono HBB.out) hg' 0 _ rfl
    have hs : ((str l[j].name).toList == (str nm).toList) = false := by rw [zAb, zAb]; exact N2.out j hjn hjl
    generalize l[j].name = mm at y0 hs
    clear R0 e2 e3
    go_wp2_with fail
    go_still (by kernel_rfl)
    go_wp2_with fail
    go_roundg (k - (j + 1))
    case measure => omega
    case rel => exact ⟨j + 1, by omega, by go_num, hid (HQ.out.keep (zAw wr))⟩
   have hjz : ¬ ((j : Int) < (k : Int)) := by omega
   have hr0 : ((rs.length : Int) == 0) = false := by simpa using n3
   have hr1 : ¬ ((8 : Int) < (rs.length : Int)) := by omega
   go_wp2_with fail
   clear xa xv hr0 hr1
   go_loopg [6] rs.length (fun gh ix wq => ∃ i : Nat, i + gh = rs.length ∧ ix = .int .i64 i ∧ Hid (RB r w wq))
   case atStart => exact ⟨0, by omega, rfl, HQ⟩
   case round =>
    clear HQ
    obtain ⟨i, hi, rfl, HQ⟩ := hrel
    obtain ⟨xa, xv⟩ := XA.out wr HQ.out.b
    by_cases hil : i < rs.length
    case neg =>
     have hiz : ¬ ((i : Int) < (rs.length : Int)) := by omega
     go_wp2_with fail
     go_roundg (l.length - (k + 1))
     case measure => omega
     case rel => exact ⟨k + 1, by omega, by go_num, HQ⟩
    have hiz : (i : Int) < (rs.length : Int) := by omega
    obtain ⟨g2, o2, c3, e', -, hg2, R0⟩ := HNK.out.elem (n := 7) (by decide) (fun _ => rfl) hil
    injection e' with e1 e2 e3
    subst e1 e3
    have r1 := hid (zAh R0 (HQ.out.b.mono HBB.out) hg2)
    have OK := hid (N5.out _ (List.getElem_mem hil))
    generalize rs[i] = x at r1 OK
    clear R0 e2
    go_upto_region 22 with (first | (refine zAa rfl 101 _ rfl rfl r1.out Tryz.rowCl Tryz.sizeCl ?_) | (refine zAe rfl 101 _ _ rfl rfl rfl (HasC.new wr _ _) rfl Tryz.sizeCl (Cl.one x) ?_; intro w5 hz1 hz2))
    have HW5 : Hid (RBL r w 101 wr.heap.size x.C w5) := hid (let q := HQ.out.keep (zAn hz2); ⟨q.h, q.b, hz1⟩)
    clear hz1 hz2 r1 HQ xa xv
    generalize wr.heap.size = gx at HW5 ⊢
    obtain ⟨k1, k2, k3, k4, k5, k6⟩ := clE_ok OK.out
    have HLI := hid k1
    clear k1 OK
    have HWI := hid zCg
    obtain ⟨permit, list, tag, setM, setT, setP, prep⟩ := x
    dsimp only at HLI k2 k3 k4 k5 k6
    have x1 : w5.cell? ⟨gx, 1, none⟩ = some (.string (str list)) := HW5.out.l.cell 1
    by_cases hli : list = []
    ·subst hli
     have tn := zAb ([] : List UInt8)
     have x2 : w5.cell? ⟨gx, 2, none⟩ = some (.int .i64 tag) := HW5.out.l.cell 2
     have x3 : w5.cell? ⟨gx, 3, none⟩ = some (.int .i64 setM) := HW5.out.l.cell 3
     have x4 : w5.cell? ⟨gx, 4, none⟩ = some (.int .i64 setT) := HW5.out.l.cell 4
     have x5 : w5.cell? ⟨gx, 5, none⟩ = some (.int .i64 setP) := HW5.out.l.cell 5
     have x6 : w5.cell? ⟨gx, 6, none⟩ = some (.int .i64 prep) := HW5.out.l.cell 6
     go_wp2_with (go_at_call 20; refine (HWI.out _ _ _ _).mono ?_; rintro e w' ⟨rfl, rfl⟩)
     go_roundg (rs.length - (i + 1))
     case measure => omega
     case rel => exact ⟨i + 1, by omega, by go_num, hid ⟨HW5.out.h, HW5.out.b⟩⟩
    obtain ⟨i1, i2, i3⟩ := zCv hli
    have di := HLI.out hli
    go_wp2_with (refine zAk (by rfl) (zAa rfl 41 _ rfl rfl HW5.out.h.range Tryz.rowRt Tryz.sizeRt ?_))
    with_reducible refine (zEz r list w5 B (HR.out.below (HW5.out.b.mono HBB.out)) (Nat.le_trans HBB.out HW5.out.b.size)).mono ?_
    rintro e w6 ⟨rfl, hb⟩
    have HW6 := hid (HW5.out.keep hb)
    clear hb HW5 x1 i1 i2 i3
    have x2 : w6.cell? ⟨gx, 2, none⟩ = some (.int .i64 tag) := HW6.out.l.cell 2
    have x3 : w6.cell? ⟨gx, 3, none⟩ = some (.int .i64 setM) := HW6.out.l.cell 3
    have x4 : w6.cell? ⟨gx, 4, none⟩ = some (.int .i64 setT) := HW6.out.l.cell 4
    have x5 : w6.cell? ⟨gx, 5, none⟩ = some (.int .i64 setP) := HW6.out.l.cell 5
    have x6 : w6.cell? ⟨gx, 6, none⟩ = some (.int .i64 prep) := HW6.out.l.cell 6
    go_wp2_with (go_at_call 20; refine (HWI.out _ _ _ _).mono ?_; rintro e w' ⟨rfl, rfl⟩)
    go_roundg (rs.length - (i + 1))
    case measure => omega
    case rel => exact ⟨i + 1, by omega, by go_num, hid ⟨HW6.out.h, HW6.out.b⟩⟩
theorem filt_ok {acls : List AList} {x : If} (h : filtE acls x = 0) : (x.inn ≠ [] → decide (idxF (fun y => y.name == x.inn) acls 0 < 0) = false) ∧ (x.out ≠ [] → decide (idxF (fun y => y.name == x.out) acls 0 < 0) = false) := by
 unfold filtE at h
 cases h1 : zBd (fun y : AList => y.name) acls x.inn with
 | true => rw [h1] at h; cases h
 | false =>
 cases h2 : zBd (fun y : AList => y.name) acls x.out with
 | true => rw [h1, h2] at h; cases h
 | false => exact ⟨zGc h1, zGc h2⟩
theorem natE_ok {acls : List AList} {x : Tr} (h : natE acls x = 0) : zDi x = true ∧ (x.kind = 2 → decide (idxF (fun y => y.name == x.list) acls 0 < 0) = false) := by
 unfold natE at h
 cases hr : zDi x with
 | false => rw [hr] at h; cases h
 | true =>
 rw [hr] at h
 refine ⟨rfl, fun hk => ?_⟩
 rw [hk] at h
 cases hd : decide (idxF (fun y => y.name == x.list) acls 0 < 0) with
 | false => rfl
 | true => rw [hd] at h; cases h
theorem nats_ok {acls : List AList} {l : List Tr} (h : natsE acls l = 0) : l.length ≤ 8 ∧ ∀ x ∈ l, natE acls x = 0 := by
 unfold natsE at h
 by_cases h8 : 8 < l.length
 ·rw [if_pos h8] at h; cases h
 rw [if_neg h8] at h
 exact ⟨by omega, zGu h⟩
set_option maxRecDepth 100000 in
theorem rfilters_ok (r : Rt) (w : World) (B : Nat) (hB : B ≤ w.heap.size) (h : r.at w B) (hf : ∀ x ∈ r.ifs, x.fit) (hz : zAp (filtE r.acls) r.ifs = 0) : Calls Tryz.prog 26 #[.agg r.C] w fun e w' => e = .returned (.int .i64 0) ∧ Below w.heap.size w w' := by
 have HBB := hid hB
 have HR := hid h
 have HB := hid (RB.start r w)
 have HF := hid hf
 have HWI := hid zCg
 have hl := h.hifs
 have hlen := hl.len
 simp only [maxLen] at hlen
 have hO := zGu hz
 generalize r.ifs = l at *
 obtain ⟨A, c, hv, -⟩ := id hl
 have HL : Hid (∀ w', RB r w w' → w'.cell? ⟨w.heap.size, 2, none⟩ = some (.slice A l.length c)) := hid (fun w' h => by rw [← hv]; exact h.h.cell 2)
 rw [hv] at hl
 have HO := hid hO
 have HS := hid hl
 have cl := HL.out _ HB.out
 clear h hf hz hO hl hv
 go_enter Tryz.func26, Tryz.ntmps26
 go_wp2_with fail
 clear cl
 go_loopg [3] l.length (fun gh ix wr => ∃ k : Nat, k + gh = l.length ∧ ix = .int .i64 k ∧ Hid (RB r w wr))
 case atStart => exact ⟨0, by omega, rfl, HB⟩
 case round =>
  clear HB
  obtain ⟨k, hk, rfl, HB⟩ := hrel
  have cl := HL.out wr HB.out
  by_cases hlt : k < l.length
  case neg =>
   have hkz : ¬ ((k : Int) < (l.length : Int)) := by omega
   go_wp2_with fail
   go_ret
   exact ⟨rfl, HB.out.b⟩
  have hkz : (k : Int) < (l.length : Int) := by omega
  obtain ⟨g, o, c', e', -, hg, R0⟩ := HS.out.elem (n := 12) (by decide) (fun _ => rfl) hlt
  injection e' with e1 e2 e3
  subst e1 e3
  have r1 := hid (zAh R0 (HB.out.b.mono HBB.out) hg)
  have FX := hid (HF.out _ (List.getElem_mem hlt))
  have OK := hid (HO.out _ (List.getElem_mem hlt))
  generalize l[k] = x at r1 FX OK
  clear R0 e2
  go_upto_region 5 with (first | (refine zAa rfl 68 _ rfl rfl r1.out Tryz.rowIf Tryz.sizeIf ?_) | (refine zAe rfl 68 _ _ rfl rfl rfl (HasC.new wr _ _) rfl Tryz.sizeIf (If.one x) ?_; intro w5 hz1 hz2))
  have H5 : Hid (RBL r w 68 wr.heap.size x.C w5) := hid (let q := HB.out.keep (zAn hz2); ⟨q.h, q.b, hz1⟩)
  clear hz1 hz2 r1 HB cl
  generalize wr.heap.size = gx at H5 ⊢
  obtain ⟨k1, k2⟩ := filt_ok OK.out
  obtain ⟨name, addr, len, vlan, down, ls, area, cost, dv, inn, out, side⟩ := x
  dsimp only at k1 k2
  have DI := hid k1
  have DO := hid k2
  clear k1 k2 OK FX
  have y9 : w5.cell? ⟨gx, 9, none⟩ = some (.string (str inn)) := H5.out.l.cell 9
  by_cases hi : inn = []
  ·subst hi
   have tni := zAb ([] : List UInt8)
   have y10 : w5.cell? ⟨gx, 10, none⟩ = some (.string (str out)) := H5.out.l.cell 10
   by_cases ho : out = []
   ·subst ho
    have tno := zAb ([] : List UInt8)
    go_wp2_with fail
    go_roundg (l.length - (k + 1))
    case measure => omega
    case rel => exact ⟨k + 1, by omega, by go_num, hid ⟨H5.out.h, H5.out.b⟩⟩
   obtain ⟨j1, j2, j3⟩ := zCv ho
   have do1 := DO.out ho
   go_wp2_with (first | (refine zAa rfl 41 _ rfl rfl H5.out.h.range Tryz.rowRt Tryz.sizeRt ?_) | (refine zAk (by rfl) (zAa rfl 41 _ rfl rfl H5.out.h.range Tryz.rowRt Tryz.sizeRt ?_)))
   with_reducible refine (zEy r out w5 B (HR.out.below (H5.out.b.mono HBB.out)) (Nat.le_trans HBB.out H5.out.b.size)).mono ?_
   rintro e w8 ⟨rfl, hb⟩
   have H8 := hid (H5.out.keep hb)
   clear hb
   clear y10 j1 j2 j3
   go_wp2_with fail
   go_roundg (l.length - (k + 1))
   case measure => omega
   case rel => exact ⟨k + 1, by omega, by go_num, hid ⟨H8.out.h, H8.out.b⟩⟩
  obtain ⟨i1, i2, i3⟩ := zCv hi
  have di := DI.out hi
  go_wp2_with (first | (refine zAa rfl 41 _ rfl rfl H5.out.h.range Tryz.rowRt Tryz.sizeRt ?_) | (refine zAk (by rfl) (zAa rfl 41 _ rfl rfl H5.out.h.range Tryz.rowRt Tryz.sizeRt ?_)))
  with_reducible refine (zEy r inn w5 B (HR.out.below (H5.out.b.mono HBB.out)) (Nat.le_trans HBB.out H5.out.b.size)).mono ?_
  rintro e w6 ⟨rfl, hb⟩
  have H6 := hid (H5.out.keep hb)
  clear hb
  clear y9 i1 i2 i3
  have y10 : w6.cell? ⟨gx, 10, none⟩ = some (.string (str out)) := H6.out.l.cell 10
  by_cases ho : out = []
  ·subst ho
   have tno := zAb ([] : List UInt8)
   go_wp2_with fail
   go_roundg (l.length - (k + 1))
   case measure => omega
   case rel => exact ⟨k + 1, by omega, by go_num, hid ⟨H6.out.h, H6.out.b⟩⟩
  obtain ⟨j1, j2, j3⟩ := zCv ho
  have do1 := DO.out ho
  go_wp2_with (first | (refine zAa rfl 41 _ rfl rfl H6.out.h.range Tryz.rowRt Tryz.sizeRt ?_) | (refine zAk (by rfl) (zAa rfl 41 _ rfl rfl H6.out.h.range Tryz.rowRt Tryz.sizeRt ?_)))
  with_reducible refine (zEy r out w6 B (HR.out.below (H6.out.b.mono HBB.out)) (Nat.le_trans HBB.out H6.out.b.size)).mono ?_
  rintro e w8 ⟨rfl, hb⟩
  have H8 := hid (H6.out.keep hb)
  clear hb
  clear y10 j1 j2 j3
  go_wp2_with fail
  go_roundg (l.length - (k + 1))
  case measure => omega
  case rel => exact ⟨k + 1, by omega, by go_num, hid ⟨H8.out.h, H8.out.b⟩⟩
set_option maxRecDepth 100000 in
theorem zKp (r : Rt) (w : World) (B : Nat) (hB : B ≤ w.heap.size) (h : r.at w B) (hf : ∀ x ∈ r.nat, x.fit) (hz : natsE r.acls r.nat = 0) : Calls Tryz.prog 25 #[.agg r.C] w fun e w' => e = .returned (.int .i64 0) ∧ Below w.heap.size w w' := by
 have HBB := hid hB
 have HR := hid h
 have HB := hid (RB.start r w)
 have HF := hid hf
 have HWI := hid zCg
 have hl := h.hnat
 have hlen := hl.len
 simp only [maxLen] at hlen
 obtain ⟨h8, hO⟩ := nats_ok hz
 generalize r.nat = l at *
 obtain ⟨A, c, hv, -⟩ := id hl
 have HL : Hid (∀ w', RB r w w' → w'.cell? ⟨w.heap.size, 6, none⟩ = some (.slice A l.length c)) := hid (fun w' h => by rw [← hv]; exact h.h.cell 6)
 rw [hv] at hl
 have HO := hid hO
 have HS := hid hl
 have cl := HL.out _ HB.out
 have d8 : ¬ ((8 : Int) < (l.length : Int)) := by omega
 clear h hf hz hO hl hv
 go_enter Tryz.func25, Tryz.ntmps25
 go_wp2_with fail
 clear cl d8
 go_loopg [3] l.length (fun gh ix wr => ∃ k : Nat, k + gh = l.length ∧ ix = .int .i64 k ∧ Hid (RB r w wr))
 case atStart => exact ⟨0, by omega, rfl, HB⟩
 case round =>
  clear HB
  obtain ⟨k, hk, rfl, HB⟩ := hrel
  have cl := HL.out wr HB.out
  by_cases hlt : k < l.length
  case neg =>
   have hkz : ¬ ((k : Int) < (l.length : Int)) := by omega
   go_wp2_with fail
   go_ret
   exact ⟨rfl, HB.out.b⟩
  have hkz : (k : Int) < (l.length : Int) := by omega
  obtain ⟨g, o, c', e', -, hg, R0⟩ := HS.out.elem (n := 9) (by decide) (fun _ => rfl) hlt
  injection e' with e1 e2 e3
  subst e1 e3
  have r1 := hid (zAh R0 (HB.out.b.mono HBB.out) hg)
  have FX := hid (HF.out _ (List.getElem_mem hlt))
  have OK := hid (HO.out _ (List.getElem_mem hlt))
  generalize l[k] = x at r1 FX OK
  clear R0 e2
  go_upto_region 7 with (first | (refine zAa rfl 70 _ rfl rfl r1.out Tryz.rowTr Tryz.sizeTr ?_) | (refine zAe rfl 70 _ _ rfl rfl rfl (HasC.new wr _ _) rfl Tryz.sizeTr (Tr.one x) ?_; intro w5 hz1 hz2))
  have H5 : Hid (RBL r w 70 wr.heap.size x.C w5) := hid (let q := HB.out.keep (zAn hz2); ⟨q.h, q.b, hz1⟩)
  clear hz1 hz2 r1 HB cl
  generalize wr.heap.size = gx at H5 ⊢
  obtain ⟨k1, k2⟩ := natE_ok OK.out
  have FH := FX.out.2.2.2
  obtain ⟨kind, ins, outs, proto, iport, oport, list, lo, hi⟩ := x
  dsimp only at k1 k2 FH
  have DI := hid k2
  have g := Tryz.trGuard
  have hr := k1
  unfold zDi at hr
  clear k1 k2 OK FX
  by_cases q1 : kind = 1
  ·subst q1
   rw [if_pos rfl] at hr
   unfold sameS at hr
   simp only [Bool.and_eq_true, beq_iff_eq, List.isEmpty_iff, Bool.not_eq_true', beq_eq_false_iff_ne] at hr
   obtain ⟨⟨⟨⟨⟨⟨⟨rfl, rfl⟩, rfl⟩, rfl⟩, rfl⟩, rfl⟩, p1⟩, p2⟩ := hr
   have tn := zAb ([] : List UInt8)
   have v1 : ((ins : Int) != 0) = true := by simp; omega
   have v2 : ((outs : Int) != 0) = true := by simp; omega
   have x0 : w5.cell? ⟨gx, 0, none⟩ = some (.int .i64 1) := H5.out.l.cell 0
   have x1 : w5.cell? ⟨gx, 1, none⟩ = some (.int .u32 (ins : Int)) := H5.out.l.cell 1
   have x2 : w5.cell? ⟨gx, 2, none⟩ = some (.int .u32 (outs : Int)) := H5.out.l.cell 2
   have x3 : w5.cell? ⟨gx, 3, none⟩ = some (.int .i64 0) := H5.out.l.cell 3
   have x4 : w5.cell? ⟨gx, 4, none⟩ = some (.int .i64 0) := H5.out.l.cell 4
   have x5 : w5.cell? ⟨gx, 5, none⟩ = some (.int .i64 0) := H5.out.l.cell 5
   have x6 : w5.cell? ⟨gx, 6, none⟩ = some (.string (str [])) := H5.out.l.cell 6
   have x7 : w5.cell? ⟨gx, 7, none⟩ = some (.int .u32 0) := H5.out.l.cell 7
   have x8 : w5.cell? ⟨gx, 8, none⟩ = some (.int .u32 0) := H5.out.l.cell 8
   have HX : Hid (HasC 70 gx #[.int .i64 1, .int .u32 (ins : Int), .int .u32 (outs : Int), .int .i64 0, .int .i64 0, .int .i64 0, .string (str []), .int .u32 0, .int .u32 0] w5) := hid H5.out.l
   go_wp2_with (refine zAk (by rfl) (zAa rfl 70 _ rfl rfl HX.out.range Tryz.rowTr Tryz.sizeTr ?_))
   go_roundg (l.length - (k + 1))
   case measure => omega
   case rel => exact ⟨k + 1, by omega, by go_num, hid ⟨H5.out.h, H5.out.b⟩⟩
  by_cases q2 : kind = 2
  ·subst q2
   rw [if_neg q1, if_pos rfl] at hr
   unfold sameP at hr
   simp only [Bool.and_eq_true, beq_iff_eq, Bool.not_eq_true', beq_eq_false_iff_ne, decide_eq_true_eq] at hr
   obtain ⟨⟨⟨⟨⟨⟨⟨rfl, rfl⟩, rfl⟩, rfl⟩, rfl⟩, p1⟩, p2⟩, p3⟩ := hr
   have v1 : ((lo : Int) != 0) = true := by simp; omega
   have hle : ((lo : Int) ≤ (hi : Int)) := by omega
   have hs := u32_sub_nat hi lo p2 FH
   have di := DI.out rfl
   have x0 : w5.cell? ⟨gx, 0, none⟩ = some (.int .i64 2) := H5.out.l.cell 0
   have x1 : w5.cell? ⟨gx, 1, none⟩ = some (.int .u32 0) := H5.out.l.cell 1
   have x2 : w5.cell? ⟨gx, 2, none⟩ = some (.int .u32 0) := H5.out.l.cell 2
   have x3 : w5.cell? ⟨gx, 3, none⟩ = some (.int .i64 0) := H5.out.l.cell 3
   have x4 : w5.cell? ⟨gx, 4, none⟩ = some (.int .i64 0) := H5.out.l.cell 4
   have x5 : w5.cell? ⟨gx, 5, none⟩ = some (.int .i64 0) := H5.out.l.cell 5
   have x6 : w5.cell? ⟨gx, 6, none⟩ = some (.string (str list)) := H5.out.l.cell 6
   have x7 : w5.cell? ⟨gx, 7, none⟩ = some (.int .u32 (lo : Int)) := H5.out.l.cell 7
   have x8 : w5.cell? ⟨gx, 8, none⟩ = some (.int .u32 (hi : Int)) := H5.out.l.cell 8
   have HX : Hid (HasC 70 gx #[.int .i64 2, .int .u32 0, .int .u32 0, .int .i64 0, .int .i64 0, .int .i64 0, .string (str list), .int .u32 (lo : Int), .int .u32 (hi : Int)] w5) := hid H5.out.l
   go_wp2_with (first | (refine zAk (by rfl) (zAa rfl 70 _ rfl rfl HX.out.range Tryz.rowTr Tryz.sizeTr ?_)) | (first | (refine zAa rfl 41 _ rfl rfl H5.out.h.range Tryz.rowRt Tryz.sizeRt ?_) | (refine zAk (by rfl) (zAa rfl 41 _ rfl rfl H5.out.h.range Tryz.rowRt Tryz.sizeRt ?_))))
   with_reducible refine (zEy r list w5 B (HR.out.below (H5.out.b.mono HBB.out)) (Nat.le_trans HBB.out H5.out.b.size)).mono ?_
   rintro e w7 ⟨rfl, hb⟩
   have H7 := hid (H5.out.keep hb)
   clear hb
   clear x0 x1 x2 x3 x4 x5 x6 x7 x8
   go_wp2_with fail
   go_roundg (l.length - (k + 1))
   case measure => omega
   case rel => exact ⟨k + 1, by omega, by go_num, hid ⟨H7.out.h, H7.out.b⟩⟩
  by_cases q3 : kind = 3
  ·subst q3
   rw [if_neg q1, if_neg q2, if_pos rfl] at hr
   simp only [Bool.and_eq_true, beq_iff_eq, List.isEmpty_iff, Bool.not_eq_true', beq_eq_false_iff_ne] at hr
   obtain ⟨⟨⟨⟨⟨⟨⟨p1, p2⟩, p3⟩, p4⟩, p5⟩, rfl⟩, rfl⟩, rfl⟩ := hr
   have tn := zAb ([] : List UInt8)
   have v1 : ((ins : Int) != 0) = true := by simp; omega
   have v2 : ((outs : Int) != 0) = true := by simp; omega
   have x0 : w5.cell? ⟨gx, 0, none⟩ = some (.int .i64 3) := H5.out.l.cell 0
   have x1 : w5.cell? ⟨gx, 1, none⟩ = some (.int .u32 (ins : Int)) := H5.out.l.cell 1
   have x2 : w5.cell? ⟨gx, 2, none⟩ = some (.int .u32 (outs : Int)) := H5.out.l.cell 2
   have x3 : w5.cell? ⟨gx, 3, none⟩ = some (.int .i64 proto) := H5.out.l.cell 3
   have x4 : w5.cell? ⟨gx, 4, none⟩ = some (.int .i64 iport) := H5.out.l.cell 4
   have x5 : w5.cell? ⟨gx, 5, none⟩ = some (.int .i64 oport) := H5.out.l.cell 5
   have x6 : w5.cell? ⟨gx, 6, none⟩ = some (.string (str [])) := H5.out.l.cell 6
   have x7 : w5.cell? ⟨gx, 7, none⟩ = some (.int .u32 0) := H5.out.l.cell 7
   have x8 : w5.cell? ⟨gx, 8, none⟩ = some (.int .u32 0) := H5.out.l.cell 8
   by_cases t6 : proto = 6
   ·subst t6
    go_wp2_with (go_at_call 20; refine (HWI.out _ _ _ _).mono ?_; rintro e w' ⟨rfl, rfl⟩)
    go_roundg (l.length - (k + 1))
    case measure => omega
    case rel => exact ⟨k + 1, by omega, by go_num, hid ⟨H5.out.h, H5.out.b⟩⟩
   have t6' : (proto == 6) = false := by simpa using t6
   rw [t6', Bool.false_or] at p3
   have t17 : proto = 17 := by simpa using p3
   subst t17
   go_wp2_with (go_at_call 20; refine (HWI.out _ _ _ _).mono ?_; rintro e w' ⟨rfl, rfl⟩)
   go_roundg (l.length - (k + 1))
   case measure => omega
   case rel => exact ⟨k + 1, by omega, by go_num, hid ⟨H5.out.h, H5.out.b⟩⟩
  rw [if_neg q1, if_neg q2, if_neg q3] at hr
  cases hr
end Go.Proofs.YtoceoaiokkbjeaaGreatDoor
