/- The law QueryLists. Condition: Go's own tables and the words lie below the world's blocks (EnvB). -/
import Derived.Test.YtnhemjdmleilcaaDoorQryT
namespace Go.Proofs.YtnhemjdmleilcaaDoor
open Go.RowKit

theorem qry_neq (q : Qr) (w : World) : (binOp .neq 30 (QV q) (QV q)).run Tryd.prog w = .ok (.bool false) w := by
  have hp := Tryd.qryStood
  unfold QV strV
  simp [go_sem, hp]
/-- In a region that draws its order: a load of a query out of a row of queries. -/
theorem yieldsM {ops : Array Oper} {S : World → Prop} {o : Oper} {a : Act} (hw : Region.wanted o (yielded ops a.tmps) = true) (x : Operand) (ho : o.op = .load 30 x) {g f : Nat} {q : Qr}
    (hx : a.eval x = .pointer (some ⟨g, f, none⟩)) (hS : ∀ w, S w → w.rangeAt g f (QC q).toList) : YieldsIf Tryd.prog ops S o (QV q) a := by
  obtain ⟨d, hu, hd⟩ := row_of Tryd.rowQ
  have := yieldsIf_load_mid (P := Tryd.prog) (ops := ops) (S := S) hw 30 x ho g f hx (QC q).toList d hS hu hd Tryd.sizeQ
  simpa [QV_eq] using this
theorem yieldsNeq {ops : Array Oper} {S : World → Prop} {o : Oper} {a : Act} (hw : Region.wanted o (yielded ops a.tmps) = true) (x y : Operand) (ho : o.op = .binOp .neq 30 x y 30) {q : Qr}
    (hx : a.eval x = QV q) (hy : a.eval y = QV q) : YieldsIf Tryd.prog ops S o (.bool false) a := by
  refine Or.inl ⟨hw, fun w _ => ?_⟩
  have hb := qry_neq q w
  have hg : (eqGuard .neq 30 x y (QV q) (QV q)).run Tryd.prog w = .ok () w := by
    have := Tryd.qryGuard
    simp [eqGuard, QV, this]
  unfold execOp
  simp only [ho, hx, hy, Sem.run_bind, hg, hb, Sem.run_pure, Result.andThen_ok]
theorem QCs_map (qs : List Qr) : QCs qs = (qs.map QV).flatMap fun v => v.cells.toList := by
  unfold QCs
  rw [List.flatMap_map]
  rfl
/-- One query of a row. -/
theorem slcQ {w : World} {B : Nat} {A : Option Addr} {n c : Nat} {qs : List Qr} (h : Slc w B 20 (.slice A n c) n (QCs qs)) (hn : n = qs.length) {k : Nat} (hk : k < qs.length) :
    ∃ g o, A = some ⟨g, o, none⟩ ∧ g < B ∧ w.rangeAt g (o + k * 20) (QC qs[k]).toList := by
  obtain ⟨A', c', e, _, _, _, h⟩ := h
  injection e with e1 e2 e3
  subst e1
  obtain ⟨g, o, rfl, hg, hc⟩ := h (by omega)
  refine ⟨g, o, rfl, hg, fun j v hv => ?_⟩
  have hj : j < 20 := by
    rcases Nat.lt_or_ge j (QC qs[k]).toList.length with h' | h'
    · simpa [QC_size] using h'
    · rw [List.getElem?_eq_none h'] at hv; cases hv
  have := hc (k * 20 + j) v (by
    rw [QCs_map, Great.flat_get (s := 20) (by omega) _ (fun v hv => by obtain ⟨q, _, rfl⟩ := List.mem_map.1 hv; rfl)]
    rw [show (k * 20 + j) / 20 = k from by omega, show (k * 20 + j) % 20 = j from by omega]
    rw [List.getElem?_map, List.getElem?_eq_getElem hk]
    show (QC qs[k])[j]? = some v
    simpa using hv)
  rwa [Nat.add_assoc]
theorem rangeBelow {w w' : World} {B g o : Nat} {xs : List Value} (h : w.rangeAt g o xs) (hb : Below B w w') (hg : g < B) : w'.rangeAt g o xs := fun j v hv => (hb.cell (p := ⟨g, o + j, none⟩) hg).trans (h j v hv)
set_option maxRecDepth 100000 in
set_option maxHeartbeats 4000000 in
theorem sameList_any (s : ByteArray) (w : World) (he : EnvB w.heap.size w) : Calls Tryd.prog 19 #[.string s] w fun e w' => e = .returned (.bool true) ∧ Below w.heap.size w w' := by
  have HE := Lib.hid he
  clear he
  go_enter Tryd.func19, Tryd.ntmps19
  go_wp2_with fail
  refine (qall_any s _ HE.out).mono ?_
  rintro e w1 ⟨v1, rfl, ho1, hb1⟩
  obtain ⟨A1, c1, rfl, -⟩ := own_cap ho1
  have B1 := Lib.hid hb1
  have O1 := Lib.hid ho1
  clear hb1 ho1
  go_wp2_with fail
  refine (rqall_any s _ (HE.out.up B1.out)).mono ?_
  rintro e w2 ⟨v2, rfl, ho2, hb2⟩
  obtain ⟨A2, c2, rfl, -⟩ := own_cap ho2
  have B2 := Lib.hid (B1.out.trans (hb2.mono B1.out.size))
  have L1 := Lib.hid (((Slc.of_own O1.out).below hb2).mono hb2.size)
  have L2 := Lib.hid (Slc.of_own ho2)
  have hm : (allR (bytes s)).1.length ≤ maxLen := by
    obtain ⟨_, _, e, hm, _⟩ := L2.out
    exact hm
  clear hb2 ho2 O1 B1
  generalize allR (bytes s) = R at *
  obtain ⟨qs, n, er⟩ := R
  dsimp only at L1 L2 hm ⊢
  simp only [maxLen] at hm
  go_wp2_with fail
  go_loopg [9] qs.length (fun gh ix wr => ∃ (k : Nat), gh = qs.length - k ∧ k ≤ qs.length ∧ ix = .int .i64 k ∧ Below w2.heap.size w2 wr)
  case atStart => exact ⟨0, by omega, by omega, rfl, Below.refl _ _⟩
  case round =>
    obtain ⟨k, rfl, hk, rfl, hbW⟩ := hrel
    by_cases hlt : k < qs.length
    case neg =>
      go_wp2_with fail
      go_ret
      exact ⟨rfl, B2.out.trans (hbW.mono B2.out.size)⟩
    obtain ⟨g1, o1, rfl, hg1, hr1⟩ := slcQ L1.out rfl hlt
    obtain ⟨g2, o2, rfl, hg2, hr2⟩ := slcQ L2.out rfl hlt
    have S0 : wr.drew.rangeAt g1 (o1 + k * 20) (QC qs[k]).toList ∧ wr.drew.rangeAt g2 (o2 + k * 20) (QC qs[k]).toList := ⟨rangeBelow hr1 (hbW.trans (belowDrew _ |>.mono hbW.size)) hg1, rangeBelow hr2 (hbW.trans (belowDrew _ |>.mono hbW.size)) hg2⟩
    have S1 := Lib.hid S0
    have BW := Lib.hid (B2.out.trans (hbW.mono B2.out.size))
    have hbW' := Lib.hid hbW
    clear hr1 hr2 hbW S0
    generalize hx : qs[k] = x at S1
    clear hx
    go_wp2_with fail
    refine wp_region_held_drew (S := fun w' => w'.rangeAt g1 (o1 + k * 20) (QC x).toList ∧ w'.rangeAt g2 (o2 + k * 20) (QC x).toList) (by kernel_rfl) S1.out (fun hHeld => ?_)
    refine wpAnyH_take (i := 0) (oi := { dst := some 43, op := Op.move (Operand.tmp 3), type := 46, pos := "law.go:125", after := #[], guard := none }) (v := ?_) rfl (by kernel_rfl) (by kernel_rfl) (by kernel_rfl) (fun _ _ _ h => h) (Or.inl ⟨by rfl, ?_⟩) (by assumption) ?_
    rotate_left
    · (intro w hSw; (try dsimp only at hSw); go_simp; try with_reducible rfl)
    try simp only [Act.put, List.setIfInBounds_toArray, List.set_cons_zero, List.set_cons_succ]
    refine wpAnyH_take (i := 1) (oi := { dst := some 44, op := Op.move (Operand.tmp 9), type := 3, pos := "law.go:125", after := #[], guard := none }) (v := ?_) rfl (by kernel_rfl) (by kernel_rfl) (by kernel_rfl) (fun _ _ _ h => h) (Or.inl ⟨by rfl, ?_⟩) (by assumption) ?_
    rotate_left
    · (intro w hSw; (try dsimp only at hSw); go_simp; try with_reducible rfl)
    try simp only [Act.put, List.setIfInBounds_toArray, List.set_cons_zero, List.set_cons_succ]
    refine wpAnyH_take (i := 2) (oi := { dst := some 45, op := Op.indexAddr 46 (Operand.tmp 43) (Operand.tmp 44), type := 0, pos := "law.go:125", after := #[{ on := 0, ground := Ground.data }, { on := 1, ground := Ground.data }], guard := none }) (v := ?_) rfl (by kernel_rfl) (by kernel_rfl) (by kernel_rfl) (fun _ _ _ h => h) (Or.inl ⟨by rfl, ?_⟩) (by assumption) ?_
    rotate_left
    · (intro w hSw; (try dsimp only at hSw); go_simp; try with_reducible rfl)
    try simp only [Act.put, List.setIfInBounds_toArray, List.set_cons_zero, List.set_cons_succ]
    refine wpAnyH_take (i := 3) (oi := { dst := some 46, op := Op.load 30 (Operand.tmp 45), type := 30, pos := "law.go:125", after := #[{ on := 2, ground := Ground.data }], guard := none }) (v := QV x) rfl (by kernel_rfl) (by kernel_rfl) (by kernel_rfl) (fun _ _ _ h => h) (yieldsM (by rfl) _ rfl rfl (fun _ h => h.1)) (by assumption) ?_
    try simp only [Act.put, List.setIfInBounds_toArray, List.set_cons_zero, List.set_cons_succ]
    refine wpAnyH_take (i := 4) (oi := { dst := some 47, op := Op.move (Operand.tmp 6), type := 46, pos := "law.go:125", after := #[], guard := none }) (v := ?_) rfl (by kernel_rfl) (by kernel_rfl) (by kernel_rfl) (fun _ _ _ h => h) (Or.inl ⟨by rfl, ?_⟩) (by assumption) ?_
    rotate_left
    · (intro w hSw; (try dsimp only at hSw); go_simp; try with_reducible rfl)
    try simp only [Act.put, List.setIfInBounds_toArray, List.set_cons_zero, List.set_cons_succ]
    refine wpAnyH_take (i := 5) (oi := { dst := some 48, op := Op.move (Operand.tmp 9), type := 3, pos := "law.go:125", after := #[], guard := none }) (v := ?_) rfl (by kernel_rfl) (by kernel_rfl) (by kernel_rfl) (fun _ _ _ h => h) (Or.inl ⟨by rfl, ?_⟩) (by assumption) ?_
    rotate_left
    · (intro w hSw; (try dsimp only at hSw); go_simp; try with_reducible rfl)
    try simp only [Act.put, List.setIfInBounds_toArray, List.set_cons_zero, List.set_cons_succ]
    refine wpAnyH_take (i := 6) (oi := { dst := some 49, op := Op.indexAddr 46 (Operand.tmp 47) (Operand.tmp 48), type := 0, pos := "law.go:125", after := #[{ on := 4, ground := Ground.data }, { on := 5, ground := Ground.data }], guard := none }) (v := ?_) rfl (by kernel_rfl) (by kernel_rfl) (by kernel_rfl) (fun _ _ _ h => h) (Or.inl ⟨by rfl, ?_⟩) (by assumption) ?_
    rotate_left
    · (intro w hSw; (try dsimp only at hSw); go_simp; try with_reducible rfl)
    try simp only [Act.put, List.setIfInBounds_toArray, List.set_cons_zero, List.set_cons_succ]
    refine wpAnyH_take (i := 7) (oi := { dst := some 50, op := Op.load 30 (Operand.tmp 49), type := 30, pos := "law.go:125", after := #[{ on := 6, ground := Ground.data }], guard := none }) (v := QV x) rfl (by kernel_rfl) (by kernel_rfl) (by kernel_rfl) (fun _ _ _ h => h) (yieldsM (by rfl) _ rfl rfl (fun _ h => h.2)) (by assumption) ?_
    try simp only [Act.put, List.setIfInBounds_toArray, List.set_cons_zero, List.set_cons_succ]
    refine wpAnyH_take (i := 8) (oi := { dst := some 51, op := Op.binOp BinOp.neq 30 (Operand.tmp 46) (Operand.tmp 50) 30, type := 4, pos := "law.go:125", after := #[{ on := 3, ground := Ground.data }, { on := 7, ground := Ground.data }], guard := none }) (v := .bool false) rfl (by kernel_rfl) (by kernel_rfl) (by kernel_rfl) (fun _ _ _ h => h) (yieldsNeq (by rfl) _ _ rfl rfl rfl) (by assumption) ?_
    try simp only [Act.put, List.setIfInBounds_toArray, List.set_cons_zero, List.set_cons_succ]
    refine wpAnyH_done (by kernel_rfl) ?_ _
    clear hHeld
    go_wp2_with fail
    go_roundg (qs.length - (k + 1))
    case measure => omega
    case rel => exact ⟨k + 1, rfl, by omega, by go_num, hbW'.out.trans (belowDrew _ |>.mono hbW'.out.size)⟩
set_option maxRecDepth 100000 in
set_option maxHeartbeats 1000000 in
theorem queryLists_walk (s : ByteArray) (w : World) (he : EnvB w.heap.size w) : Calls Tryd.prog 7 #[.string s] w fun e w' => e = .returned (.bool true) ∧ Below w.heap.size w w' := by
  have HA := Lib.hid (awake_any w he)
  have HE := Lib.hid he
  clear he
  go_enter Tryd.func7, Tryd.ntmps7
  go_wp2_with fail
  refine HA.out.mono ?_
  rintro e w1 ⟨rfl, hb⟩
  have B1 := Lib.hid hb
  clear hb HA
  by_cases h1 : 2000 < s.size
  · by_cases h2 : s.size ≤ 65536
    · go_wp2_with fail
      go_ret
      exact ⟨rfl, B1.out⟩
    · go_wp2_with fail
      refine (sameList_any s w1 (HE.out.up B1.out)).mono ?_
      rintro e w2 ⟨rfl, hb⟩
      go_wp2_with fail
      go_ret
      exact ⟨rfl, B1.out.trans (hb.mono B1.out.size)⟩
  · go_wp2_with fail
    refine (sameList_any s w1 (HE.out.up B1.out)).mono ?_
    rintro e w2 ⟨rfl, hb⟩
    go_wp2_with fail
    go_ret
    exact ⟨rfl, B1.out.trans (hb.mono B1.out.size)⟩
end Go.Proofs.YtnhemjdmleilcaaDoor
