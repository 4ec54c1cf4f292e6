/- The reference's interfaces, of a valid router. Conditions: the list lies in memory, addresses are numbers below 2^32. -/
import Derived.Test.YtoceoaiokkbjeaaGreatDoorWan
import Derived.StillTailTactics
namespace Go.Proofs.YtoceoaiokkbjeaaGreatDoor
open Lib (hid)
open Go.RowKit
theorem rightIf_ok {x : If} (h : zGf x = true) : zAg x.len 0 32 = true ∧ zAg x.vlan 0 4094 = true ∧ zAg x.side 0 2 = true ∧ ((x.len = 0 ∧ x.addr = 0 ∧ x.vlan = 0 ∧ x.side = 0 ∧ x.ls = false ∧ x.dv = false ∧ x.inn = [] ∧ x.out = []) ∨ (x.len ≠ 0 ∧ x.addr ≠ 0)) ∧ ((x.ls = true ∧ zAg x.area 0 255 = true ∧ zAg x.cost 1 65535 = true) ∨ (x.ls = false ∧ x.area = 0 ∧ x.cost = 0)) := by
 unfold zGf at h
 simp only [Bool.and_eq_true] at h
 obtain ⟨⟨⟨⟨⟨h1, h2⟩, h3⟩, h4⟩, h5⟩, h6⟩ := h
 refine ⟨h1, h2, h3, ?_, ?_⟩
 ·by_cases h0 : x.len = 0
  ·rw [h0] at h4
   simp at h4
   obtain ⟨a1, a2, a3, a4, a5, a6, a7⟩ : x.addr = 0 ∧ x.vlan = 0 ∧ x.side = 0 ∧ x.ls = false ∧ x.dv = false ∧ x.inn = [] ∧ x.out = [] := by simp_all
   exact .inl ⟨h0, a1, a2, a3, a4, a5, a6, a7⟩
  ·refine .inr ⟨h0, fun ha => ?_⟩
   rw [ha] at h5
   simp [h0] at h5
 ·cases hl : x.ls with
  | true =>
   rw [hl] at h6
   simp only [if_true, Bool.and_eq_true] at h6
   exact .inl ⟨rfl, h6⟩
  | false =>
   rw [hl] at h6
   simp at h6
   exact .inr ⟨rfl, h6⟩
set_option maxRecDepth 100000 in
set_option maxHeartbeats 8000000 in
theorem rinterfaces_ok (l : List If) (v : Value) (w : World) (B : Nat) (hB : B ≤ w.heap.size) (hl : SlV w B 12 If.C v l) (hf : ∀ x ∈ l, x.fit) (h : ifsE l = 0) : Calls Tryz.prog 21 #[v] w fun e w' => e = .returned (.int .i64 0) ∧ Below w.heap.size w w' := by
 have HBB := hid hB
 obtain ⟨h8, hO⟩ := ifs_ok h
 have HO := hid hO
 have HF := hid hf
 have HS := hid hl
 have HWI := hid zCg
 obtain ⟨A, c, rfl, -⟩ := hl
 have d8 : ¬ ((8 : Int) < (l.length : Int)) := by omega
 have HB := hid (Below.refl w.heap.size w)
 clear h hO hf
 go_enter Tryz.func21, Tryz.ntmps21
 go_wp2_with fail
 clear d8
 go_loopg [3] l.length (fun gh ix wr => ∃ k : Nat, k + gh = l.length ∧ ix = .int .i64 k ∧ Hid (Below w.heap.size w wr))
 case atStart => exact ⟨0, by omega, rfl, HB⟩
 case round =>
  clear HB
  obtain ⟨k, hk, rfl, HB⟩ := hrel
  by_cases hlt : k < l.length
  case neg =>
   have hkz : ¬ ((k : Int) < (l.length : Int)) := by omega
   go_wp2_with fail
   go_ret
   exact ⟨rfl, HB.out⟩
  have hkz : (k : Int) < (l.length : Int) := by omega
  obtain ⟨n1, n2, n3, n4⟩ := HO.out k hlt
  obtain ⟨g, o, c', e', -, hg, R0⟩ := HS.out.elem (n := 12) (by decide) (fun _ => rfl) hlt
  injection e' with e1 e2 e3
  subst e1 e3
  have r1 := hid (zAh R0 (HB.out.mono HBB.out) hg)
  have FX := hid (HF.out _ (List.getElem_mem hlt))
  clear R0 e2
  generalize l[k] = x at n1 n2 n3 n4 r1 FX
  have N2 := hid n2
  have N3 := hid (rightIf_ok n3)
  have N4 := hid n4
  clear n2 n3 n4
  go_upto_region 7 with (first | (refine zAa rfl 68 _ rfl rfl r1.out Tryz.rowIf Tryz.sizeIf ?_) | (refine zAe rfl 68 _ _ rfl rfl rfl (HasC.new wr _ _) rfl Tryz.sizeIf (If.one x) ?_; intro w5 hz1 hz2))
  have H5 : Hid (Below w.heap.size w w5) := hid (HB.out.trans ((zAn hz2).mono HB.out.size))
  have X5 := hz1
  clear hz1 hz2 r1 HB
  generalize wr.heap.size = gx at X5 ⊢
  replace X5 := hid X5
  have x0 : w5.cell? ⟨gx, 0, none⟩ = some (.string (str x.name)) := X5.out.cell 0
  go_wp2_with fail
  refine (rnameL x.name w5).mono ?_
  rintro e w' ⟨rfl, rfl⟩
  rw [n1]
  go_wp2_with fail
  clear x0 n1
  go_loopg [5] k (fun gh ix wq => ∃ j : Nat, j + gh = k ∧ ix = .int .i64 j ∧ Hid (Below w.heap.size w wq) ∧ Hid (HasC 68 gx x.C wq))
  case atStart => exact ⟨0, by omega, rfl, H5, X5⟩
  case round =>
   clear H5 X5
   obtain ⟨j, hj, rfl, HQ, XQ⟩ := hrel
   by_cases hjl : j < k
   case pos =>
    have hjn : j < l.length := by omega
    have hjz : (j : Int) < (k : Int) := by omega
    obtain ⟨g', o', c'', e', -, hg', R0⟩ := HS.out.elem (n := 12) (by decide) (fun _ => rfl) hjn
    injection e' with e1 e2 e3
    injection e1 with e1
    injection e1 with e1 e4
    subst e1 e4
    have y0 : wr.cell? ⟨g, o + j * 12, none⟩ = some (.string (str l[j].name)) := zAh R0 (HQ.out.mono HBB.out) hg' 0 _ rfl
    have x0 : wr.cell? ⟨gx, 0, none⟩ = some (.string (str x.name)) := XQ.out.cell 0
    have hs : ((str l[j].name).toList == (str x.name).toList) = false := by rw [zAb, zAb]; exact N2.out j hjn hjl
    have hjm : (j : Int) < (l.length : Int) := by omega
    generalize l[j].name = nm at y0 hs
    clear R0 e2 e3
    go_wp2_with fail
    go_still (by kernel_rfl)
    go_wp2_with fail
    go_roundg (k - (j + 1))
    case measure => omega
    case rel => exact ⟨j + 1, by omega, by go_num, hid (HQ.out.trans ((zAw wr).mono HQ.out.size)), hid (XQ.out.keep (zAw wr))⟩
   have hjz : ¬ ((j : Int) < (k : Int)) := by omega
   obtain ⟨name, addr, len, vlan, down, ls, area, cost, dv, inn, out, side⟩ := x
   have x1 : wr.cell? ⟨gx, 1, none⟩ = some (.int .u32 (addr : Int)) := XQ.out.cell 1
   have x2 : wr.cell? ⟨gx, 2, none⟩ = some (.int .i64 len) := XQ.out.cell 2
   have x3 : wr.cell? ⟨gx, 3, none⟩ = some (.int .i64 vlan) := XQ.out.cell 3
   have x5 : wr.cell? ⟨gx, 5, none⟩ = some (.bool ls) := XQ.out.cell 5
   have x6 : wr.cell? ⟨gx, 6, none⟩ = some (.int .i64 area) := XQ.out.cell 6
   have x7 : wr.cell? ⟨gx, 7, none⟩ = some (.int .i64 cost) := XQ.out.cell 7
   have x8 : wr.cell? ⟨gx, 8, none⟩ = some (.bool dv) := XQ.out.cell 8
   have x9 : wr.cell? ⟨gx, 9, none⟩ = some (.string (str inn)) := XQ.out.cell 9
   have x10 : wr.cell? ⟨gx, 10, none⟩ = some (.string (str out)) := XQ.out.cell 10
   have x11 : wr.cell? ⟨gx, 11, none⟩ = some (.int .i64 side) := XQ.out.cell 11
   have CX : Hid (∀ W, HasC 68 gx (If.C ⟨name, addr, len, vlan, down, ls, area, cost, dv, inn, out, side⟩) W → W.cell? ⟨gx, 1, none⟩ = some (.int .u32 (addr : Int)) ∧ W.cell? ⟨gx, 2, none⟩ = some (.int .i64 len)) := hid (fun W h => ⟨h.cell 1, h.cell 2⟩)
   generalize hcs : If.C ⟨name, addr, len, vlan, down, ls, area, cost, dv, inn, out, side⟩ = cs at XQ CX
   obtain ⟨q1, q2, q3, q4, q5⟩ := N3.out
   dsimp only at q1 q2 q3 q4 q5
   have WARM : True := trivial
   rcases q4 with ⟨e1, e2, e3, e4, e5, e6, e7, e8⟩ | ⟨l0, a0⟩
   case' inl =>
    have tn := zAb ([] : List UInt8)
    rw [e1] at x2 q1
    rw [e2] at x1
    rw [e3] at x3 q2
    rw [e4] at x11 q3
    rw [e6] at x8
    rw [e7] at x9
    rw [e8] at x10
    replace q5 := q5.resolve_left (fun z => by rw [e5] at z; cases z.1)
    obtain ⟨z1, z2, z3⟩ := q5
    rw [e5] at x5
    rw [z2] at x6
    rw [z3] at x7
    clear e1 e2 e3 e4 e5 e6 e7 e8 z1 z2 z3
    go_wp2_with (go_at_call 20; refine (HWI.out _ _ _ _).mono ?_; rintro e w' ⟨rfl, rfl⟩)
   case' inr =>
    have l1 : (len == 0) = false := by simpa using l0
    have l2 : (len != 0) = true := by simpa using l0
    have a1 : ((addr : Int) == 0) = false := by simp; omega
    rcases q5 with ⟨rfl, z2, z3⟩ | ⟨rfl, rfl, rfl⟩
    all_goals go_wp2_with (go_at_call 20; refine (HWI.out _ _ _ _).mono ?_; rintro e w' ⟨rfl, rfl⟩)
   all_goals
    have HZ := HQ
    have XZ := XQ
    clear HQ XQ x1 x2 x3 x5 x6 x7 x8 x9 x10 x11 q1 q2 q3 WARM
    go_loopg [6] k (fun gh ix wq => ∃ j : Nat, j + gh = k ∧ ix = .int .i64 j ∧ Hid (Below w.heap.size w wq) ∧ Hid (HasC 68 gx cs wq))
    case atStart => exact ⟨0, by omega, rfl, HZ, XZ⟩
    case round =>
     clear HZ XZ
     obtain ⟨j, hj, rfl, HQ, XQ⟩ := hrel
     by_cases hjl : j < k
     case neg =>
      have hjz : ¬ ((j : Int) < (k : Int)) := by omega
      go_wp2_with fail
      go_roundg (l.length - (k + 1))
      case measure => omega
      case rel => exact ⟨k + 1, by omega, by go_num, HQ⟩
     have hjn : j < l.length := by omega
     have hjz : (j : Int) < (k : Int) := by omega
     have hjm : (j : Int) < (l.length : Int) := by omega
     obtain ⟨g', o', c'', e', -, hg', R0⟩ := HS.out.elem (n := 12) (by decide) (fun _ => rfl) hjn
     injection e' with e1 e2 e3
     injection e1 with e1
     injection e1 with e1 e4
     subst e1 e4
     have FY := hid (HF.out _ (List.getElem_mem hjn))
     have NE := N4.out j hjn hjl
     have YA : Hid (∀ W, Below w.heap.size w W → W.cell? ⟨g, o + j * 12 + 1, none⟩ = some (.int .u32 (l[j].addr : Int)) ∧ W.cell? ⟨g, o + j * 12 + 2, none⟩ = some (.int .i64 l[j].len)) := hid (fun W h => have q := zAh R0 (h.mono HBB.out) hg'; ⟨q 1 _ rfl, q 2 _ rfl⟩)
     clear R0 e2 e3
     generalize l[j] = y at FY NE YA
     obtain ⟨yname, ya, yl, yvlan, ydown, yls, yarea, ycost, ydv, yinn, yout, yside⟩ := y
     have FYA : Hid (ya < 4294967296) := hid FY.out
     dsimp only at YA
     clear FY
     have PX := hid (fun W => zKh addr len W FX.out)
     have PY := hid (fun W => zKh ya yl W FYA.out)
     have PO := hid (fun W => zIt (addr / sz len * sz len) (zBh len) (ya / sz yl * sz yl) (zBh yl) W (net_lt FX.out) (net_lt FYA.out))
     unfold PV at PX PY PO
     have NE2 : len = 0 ∨ (len == 0) = false ∧ (len != 0) = true ∧ yl = 0 ∨ (len == 0) = false ∧ (len != 0) = true ∧ (yl == 0) = false ∧ (yl != 0) = true ∧ overP (addr / sz len * sz len) (zBh len) (ya / sz yl * sz yl) (zBh yl) = false := by
      unfold zDy at NE
      dsimp only at NE
      by_cases h1 : len = 0
      ·exact .inl h1
      by_cases h2 : yl = 0
      ·exact .inr (.inl ⟨by simpa using h1, by simpa using h1, h2⟩)
      have h1' : (len == 0) = false := by simpa using h1
      have h2' : (yl == 0) = false := by simpa using h2
      rw [h1', h2'] at NE
      exact .inr (.inr ⟨h1', by simpa using h1, h2', by simpa using h2, NE⟩)
     clear NE
     go_wp2_with fail
     refine zEm (fun W => Below w.heap.size w W ∧ HasC 68 gx cs W) (by kernel_rfl) (by kernel_rfl) ⟨HQ.out.trans ((zAw wr).mono HQ.out.size), XQ.out.keep (zAw wr)⟩ ?_
     rcases NE2 with rfl | ⟨n1, n1', rfl⟩ | ⟨n1, n1', n2, n2', n3⟩
     all_goals
      repeat
       (first
        | (refine zIw ?_ ?_; (· rfl))
        | (refine zHl (v := ?_) ?_ ?_ ?_; rotate_left; (· rfl); (· (intro W hW; obtain ⟨y1, y2⟩ := YA.out W hW.1; obtain ⟨x1, x2⟩ := CX.out W hW.2; go_simp <;> rfl)))
        | (refine zFi ?_ ?_ (fun W hW => (PX.out W).mono fun e w' ⟨he, hb⟩ => ⟨he, hW.1.trans (hb.mono hW.1.size), hW.2.keep hb⟩) ?_; (· rfl); (· (intro W hW; go_simp <;> rfl)))
        | (refine zFi ?_ ?_ (fun W hW => (PY.out W).mono fun e w' ⟨he, hb⟩ => ⟨he, hW.1.trans (hb.mono hW.1.size), hW.2.keep hb⟩) ?_; (· rfl); (· (intro W hW; go_simp <;> rfl)))
        | (refine zFi ?_ ?_ (fun W hW => (PO.out W).mono fun e w' ⟨he, hb⟩ => ⟨he, hW.1.trans (hb.mono hW.1.size), hW.2.keep hb⟩) ?_; (· rfl); (· (intro W hW; go_simp <;> rfl))))
       simp only [Act.put, List.setIfInBounds_toArray, List.set_cons_zero, List.set_cons_succ]
      refine zJm (fun wq hS => ?_)
      obtain ⟨hs1, hs2⟩ := hS
      have HS1 := hid hs1
      have HS2 := hid hs2
      clear hs1 hs2 YA PX PY PO HQ XQ
      go_wp2_with fail
      go_roundg (k - (j + 1))
      case measure => omega
      case rel => exact ⟨j + 1, by omega, by go_num, HS1, HS2⟩
end Go.Proofs.YtoceoaiokkbjeaaGreatDoor
