/- The walk of named. Conditions: the router lies in memory. -/
import Derived.Test.YtnhemjdmleilcaaGreatDoorModYr
import Derived.Lib.MinMax
namespace Go.Proofs.YtnhemjdmleilcaaGreatDoor
open Go.RowKit

theorem RQ.set {T : TypeId} {cs : Array Value} {w0 w w' : World} {g : Nat} (h : RQ T cs w0 w) (hg : w.grownBy w' (some g)) (hl : w0.heap.size < g) : RQ T cs w0 w' :=
  ⟨h.h.grown hg (by simp; omega), h.b.trans (below_of_grown hg (by omega) h.b.size)⟩
theorem i64_wrap (a : Int) (h1 : -9223372036854775808 ≤ a) (h2 : a ≤ 9223372036854775807) : IntKind.i64.wrap a = a := by
  simp only [IntKind.wrap, IntKind.signed, IntKind.bits]
  simp
  omega
/-- The zero router's cells. -/
def rtZ : Array Value := #[.string ⟨#[]⟩, .int .i64 0, .slice none 0 0, .slice none 0 0, .slice none 0 0, .slice none 0 0, .slice none 0 0, .slice none 0 0, .bool false, .int .i64 0, .slice none 0 0, .slice none 0 0, .bool false, .int .i64 0, .string ⟨#[]⟩, .string ⟨#[]⟩, .slice none 0 0, .bool false, .int .i64 0, .int .i64 0, .slice none 0 0, .slice none 0 0, .slice none 0 0, .slice none 0 0, .slice none 0 0]
/-- Two names. -/
def TwoP (w : World) (e : Ending) (w' : World) : Prop := (∃ a b : List UInt8, e = .returned (.tuple #[.string (str a), .string (str b)])) ∧ Below w.heap.size w w'
set_option maxRecDepth 100000 in
set_option maxHeartbeats 4000000 in
theorem named_any (rs : List Rt) (v : Value) (kn : Nat) (w : World) (B : Nat) (h : NetAt w B v rs) (hB : B ≤ w.heap.size) (hk : kn < 9223372036854775808) (hne : 0 < rs.length) (hsm : ∀ r ∈ rs, r.ifs.length ≤ 8) : Calls Tryz.prog 15 #[.agg #[v], .int .i64 (kn : Int)] w (TwoP w) := by
  have H0 := Lib.hid (RQ.start 24 #[v] w)
  have HN := Lib.hid h
  have HBB := Lib.hid hB
  have hm : kn % rs.length < rs.length := Nat.mod_lt _ hne
  obtain ⟨g, o, c, ev, hle, hg, R0⟩ := h.h.elem (n := 25) (by decide) (fun _ => rfl) hm
  have HA := h.n _ (List.getElem_mem hm)
  obtain ⟨A2, c2, hv2, hle2, -⟩ := HA.hifs
  have HN2 := hsm _ (List.getElem_mem hm)
  clear hsm
  have HL : Hid (∀ w', RQ 24 #[v] w w' → w'.cell? ⟨w.heap.size, 0, none⟩ = some (.slice (some ⟨g, o, none⟩) rs.length c)) := Lib.hid (fun w' h => by rw [← ev]; exact h.h.cell 0)
  have HX : Hid (∀ w', RQ 24 #[v] w w' → w'.rangeAt g (o + kn % rs.length * 25) rs[kn % rs.length].C.toList) := Lib.hid (fun w' h => rangeBelow R0 (h.b.mono hB) hg)
  have hlen := h.h.len
  simp only [maxLen] at hlen
  have hmt : Int.tmod (kn : Int) (rs.length : Int) = ((kn % rs.length : Nat) : Int) := by rw [Int.natCast_emod]; exact Int.tmod_eq_emod_of_nonneg (by omega)
  have hmi : ((kn % rs.length : Nat) : Int) < rs.length := by omega
  have hqt : Int.tdiv (kn : Int) (rs.length : Int) = ((kn / rs.length : Nat) : Int) := by rw [Int.natCast_ediv]; exact Int.tdiv_eq_ediv_of_nonneg (by omega)
  have hq : kn / rs.length ≤ kn := Nat.div_le_self _ _
  clear h hB R0 ev
  generalize rs[kn % rs.length] = x at HX HA hv2 hle2 HN2
  clear hm
  generalize kn % rs.length = m at hmt hmi HX
  generalize kn / rs.length = qn at hqt hq
  generalize rs.length = L at *
  have hL0 : ¬ L = 0 := by omega
  go_enter Tryz.func15, Tryz.ntmps15
  go_upto_region 1 with fail
  have Z0 := HasC.new (w.alloc (.cells #[v] 24)) 69 rtZ
  rw [show (w.alloc (.cells #[v] 24)).heap.size = w.heap.size + 1 from by simp] at Z0
  have HZ := Lib.hid (Z0.keep (belowDrew _))
  have HD := Lib.hid ((H0.out.keep ((Below.refl _ _).alloc (Nat.le_refl _) (.cells rtZ 69))).keep (belowDrew _))
  unfold rtZ at HZ HD
  have S2 := Lib.hid (HL.out _ HD.out)
  have S3 := Lib.hid (HX.out _ HD.out)
  have SC : Hid (∀ w1, RQ 24 #[v] w w1 → RQ 24 #[v] w (w1.setCells (w.heap.size + 1) 0 x.C.toList)) := Lib.hid (fun w1 h => h.set (grown_setCells (w.heap.size + 1) x.C.toList 0 w1) (Nat.lt_succ_self _))
  clear Z0
  have S0 := Lib.hid (HL.out _ (H0.out.keep (belowDrew _)))
  have S1 := Lib.hid (HX.out _ (H0.out.keep (belowDrew _)))
  refine wp_region_held_drew (S := fun w' => w'.cell? ⟨w.heap.size, 0, none⟩ = some (.slice (some ⟨g, o, none⟩) L c) ∧ w'.rangeAt g (o + m * 25) x.C.toList ∧ RQ 24 #[v] w w') (by kernel_rfl) ⟨S0.out, S1.out, H0.out.keep (belowDrew _)⟩ (fun hHeld => ?_)
  refine wpAnyH_take (i := 0) (oi := { dst := some 8, op := Op.fieldAddr 24 (Operand.tmp 2) 0, type := 0, pos := "law.go:218", after := #[], guard := none }) (v := ?_) rfl (by kernel_rfl) (by kernel_rfl) (by kernel_rfl) (fun _ _ _ h => h) (Or.inl ⟨by rfl, ?_⟩) (by assumption) ?_
  rotate_left
  · (intro w hSw; (try dsimp only at hSw); go_simp; try with_reducible rfl)
  try simp only [Act.put, List.setIfInBounds_toArray, List.set_cons_zero, List.set_cons_succ]
  refine wpAnyH_take (i := 1) (oi := { dst := some 9, op := Op.load 22 (Operand.tmp 8), type := 22, pos := "law.go:218", after := #[{ on := 0, ground := Ground.data }], guard := none }) (v := ?_) rfl (by kernel_rfl) (by kernel_rfl) (by kernel_rfl) (fun _ _ _ h => h) (Or.inl ⟨by rfl, ?_⟩) (by assumption) ?_
  rotate_left
  · (intro w hSw; (try dsimp only at hSw); go_simp; try with_reducible rfl)
  try simp only [Act.put, List.setIfInBounds_toArray, List.set_cons_zero, List.set_cons_succ]
  refine wpAnyH_take (i := 2) (oi := { dst := some 10, op := Op.move (Operand.tmp 1), type := 3, pos := "law.go:218", after := #[], guard := none }) (v := ?_) rfl (by kernel_rfl) (by kernel_rfl) (by kernel_rfl) (fun _ _ _ h => h) (Or.inl ⟨by rfl, ?_⟩) (by assumption) ?_
  rotate_left
  · (intro w hSw; (try dsimp only at hSw); go_simp; try with_reducible rfl)
  try simp only [Act.put, List.setIfInBounds_toArray, List.set_cons_zero, List.set_cons_succ]
  refine wpAnyH_take (i := 3) (oi := { dst := some 11, op := Op.fieldAddr 24 (Operand.tmp 2) 0, type := 0, pos := "law.go:218", after := #[], guard := none }) (v := ?_) rfl (by kernel_rfl) (by kernel_rfl) (by kernel_rfl) (fun _ _ _ h => h) (Or.inl ⟨by rfl, ?_⟩) (by assumption) ?_
  rotate_left
  · (intro w hSw; (try dsimp only at hSw); go_simp; try with_reducible rfl)
  try simp only [Act.put, List.setIfInBounds_toArray, List.set_cons_zero, List.set_cons_succ]
  refine wpAnyH_take (i := 4) (oi := { dst := some 12, op := Op.load 22 (Operand.tmp 11), type := 22, pos := "law.go:218", after := #[{ on := 3, ground := Ground.data }], guard := none }) (v := ?_) rfl (by kernel_rfl) (by kernel_rfl) (by kernel_rfl) (fun _ _ _ h => h) (Or.inl ⟨by rfl, ?_⟩) (by assumption) ?_
  rotate_left
  · (intro w hSw; (try dsimp only at hSw); go_simp; try with_reducible rfl)
  try simp only [Act.put, List.setIfInBounds_toArray, List.set_cons_zero, List.set_cons_succ]
  refine wpAnyH_take (i := 5) (oi := { dst := some 13, op := Op.call { callee := Callee.builtin Builtin.len, args := #[Operand.tmp 12], argTypes := #[22] }, type := 3, pos := "law.go:218", after := #[{ on := 4, ground := Ground.data }], guard := none }) (v := ?_) rfl (by kernel_rfl) (by kernel_rfl) (by kernel_rfl) (fun _ _ _ h => h) (Or.inl ⟨by rfl, ?_⟩) (by assumption) ?_
  rotate_left
  · (intro w hSw; (try dsimp only at hSw); go_simp; try with_reducible rfl)
  try simp only [Act.put, List.setIfInBounds_toArray, List.set_cons_zero, List.set_cons_succ]
  refine wpAnyH_take (i := 6) (oi := { dst := some 14, op := Op.binOp BinOp.rem 3 (Operand.tmp 10) (Operand.tmp 13) 3, type := 3, pos := "law.go:218", after := #[{ on := 2, ground := Ground.data }, { on := 5, ground := Ground.data }], guard := none }) (v := ?_) rfl (by kernel_rfl) (by kernel_rfl) (by kernel_rfl) (fun _ _ _ h => h) (Or.inl ⟨by rfl, ?_⟩) (by assumption) ?_
  rotate_left
  · (intro w hSw; (try dsimp only at hSw); go_simp; try with_reducible rfl)
  try simp only [Act.put, List.setIfInBounds_toArray, List.set_cons_zero, List.set_cons_succ]
  refine wpAnyH_take (i := 7) (oi := { dst := some 15, op := Op.indexAddr 22 (Operand.tmp 9) (Operand.tmp 14), type := 0, pos := "law.go:218", after := #[{ on := 1, ground := Ground.data }, { on := 6, ground := Ground.data }], guard := none }) (v := ?_) rfl (by kernel_rfl) (by kernel_rfl) (by kernel_rfl) (fun _ _ _ h => h) (Or.inl ⟨by rfl, ?_⟩) (by assumption) ?_
  rotate_left
  · (intro w hSw; (try dsimp only at hSw); go_simp; try with_reducible rfl)
  try simp only [Act.put, List.setIfInBounds_toArray, List.set_cons_zero, List.set_cons_succ]
  refine wpAnyH_take (i := 8) (oi := { dst := some 16, op := Op.load 69 (Operand.tmp 15), type := 69, pos := "law.go:218", after := #[{ on := 7, ground := Ground.data }], guard := none }) (v := .agg x.C) rfl (by kernel_rfl) (by kernel_rfl) (by kernel_rfl) (fun _ _ _ h => h) (yieldsRow (by rfl) 69 _ rfl rfl (fun _ h => h.2.1) Tryz.rowRt Tryz.sizeRt) (by assumption) ?_
  try simp only [Act.put, List.setIfInBounds_toArray, List.set_cons_zero, List.set_cons_succ]
  refine wpAnyH_ready (rs := [9]) (by kernel_rfl) (by simp) ?_
  refine AllReadyH.cons (o := { dst := some 6, op := Op.alloc 69, type := 0, pos := "law.go:218", after := #[], guard := none }) rfl (fun K hK => ?_) AllReadyH.nil
  go_simp
  refine hK.out _ _ ⟨S2.out, S3.out, HD.out⟩ (fun hHeld => ?_)
  clear hK K
  clear hHeld
  have hHeld := (⟨S2.out, S3.out, HD.out⟩ : (_ ∧ _ ∧ _))
  clear S2 S3 HD
  generalize ((w.alloc (.cells #[v] 24)).alloc (.cells #[.string ⟨#[]⟩, .int .i64 0, .slice none 0 0, .slice none 0 0, .slice none 0 0, .slice none 0 0, .slice none 0 0, .slice none 0 0, .bool false, .int .i64 0, .slice none 0 0, .slice none 0 0, .bool false, .int .i64 0, .string ⟨#[]⟩, .string ⟨#[]⟩, .slice none 0 0, .bool false, .int .i64 0, .int .i64 0, .slice none 0 0, .slice none 0 0, .slice none 0 0, .slice none 0 0, .slice none 0 0] 69)).drew = wd at HZ hHeld ⊢
  try simp only [Act.put, List.setIfInBounds_toArray, List.set_cons_zero, List.set_cons_succ]
  refine wpAnyH_ready (rs := [10]) (by kernel_rfl) (by simp) ?_
  refine AllReadyH.cons (o := { dst := none, op := Op.store 69 (Operand.tmp 6) (Operand.tmp 16), type := 0, pos := "law.go:218", after := #[{ on := 9, ground := Ground.data }, { on := 8, ground := Ground.data }, { on := 0, ground := Ground.phase }, { on := 1, ground := Ground.phase }, { on := 2, ground := Ground.phase }, { on := 3, ground := Ground.phase }, { on := 4, ground := Ground.phase }, { on := 5, ground := Ground.phase }, { on := 6, ground := Ground.phase }, { on := 7, ground := Ground.phase }, { on := 8, ground := Ground.phase }, { on := 9, ground := Ground.phase }], guard := none }) rfl (fun K hK => ?_) AllReadyH.nil
  rw [if_pos (by rfl)]
  refine wp_store_mid 69 _ _ rfl (w.heap.size + 1) 0 x.C rfl rfl HZ.out.there Tryz.sizeRt HA.one ?_
  refine hK.out _ _ ⟨HL.out _ (SC.out _ hHeld.2.2), HX.out _ (SC.out _ hHeld.2.2), SC.out _ hHeld.2.2⟩ (fun hHeld => ?_)
  clear hK K
  try simp only [Act.put]
  refine wpAnyH_done (by kernel_rfl) ?_ _
  have H2 := Lib.hid hHeld.2.2
  have X2 : Hid (HasC 69 (w.heap.size + 1) x.C (wd.setCells (w.heap.size + 1) 0 x.C.toList)) := Lib.hid (HZ.out.stored (ds := x.C) rfl)
  clear S0 S1 HZ SC hHeld H0
  generalize wd.setCells (w.heap.size + 1) 0 x.C.toList = wx at H2 X2 ⊢
  have s0 := HL.out _ H2.out
  have s2 : wx.cell? ⟨w.heap.size + 1, 2, none⟩ = some (.slice A2 x.ifs.length c2) := by rw [← hv2]; exact X2.out.cell 2
  have hnl := HN2
  generalize hnn : x.ifs.length = nl at s2 hnl
  have wq : IntKind.i64.wrap (qn : Int) = (qn : Int) := i64_wrap _ (by omega) (by omega)
  have wn : IntKind.i64.wrap ((nl : Int) + 1) = (nl : Int) + 1 := i64_wrap _ (by omega) (by omega)
  have hn0 : ¬ (nl : Int) + 1 = 0 := by omega
  have hjt : Int.tmod (qn : Int) ((nl : Int) + 1) = ((qn % (nl + 1) : Nat) : Int) := by rw [Int.natCast_emod]; exact Int.tmod_eq_emod_of_nonneg (by omega)
  have hjl : qn % (nl + 1) ≤ nl := by have := Nat.mod_lt qn (show 0 < nl + 1 by omega); omega
  generalize qn % (nl + 1) = j at hjt hjl
  go_wp2_with fail
  go_quiet (fail)
  have H3 := Lib.hid (H2.out.keep (drewN_below _ nq))
  have X3 := Lib.hid (X2.out.keep (drewN_below _ nq))
  clear s0 s2 H2 X2
  generalize wx.drewN nq = wy at H3 X3 ⊢
  have y0 : wy.cell? ⟨w.heap.size + 1, 0, none⟩ = some (.string (str x.name)) := X3.out.cell 0
  have y2 : wy.cell? ⟨w.heap.size + 1, 2, none⟩ = some (.slice A2 nl c2) := by rw [← hnn, ← hv2]; exact X3.out.cell 2
  by_cases hj : j = nl
  · subst hj
    go_wp2_with fail
    go_ret2
    exact ⟨⟨x.name, [], rfl⟩, H3.out.b⟩
  have dj : ((j : Int) == (nl : Int)) = false := by simp; omega
  have hji : (j : Int) < (nl : Int) := by omega
  have hjx : j < x.ifs.length := by omega
  obtain ⟨g2, o2, c3, ev2, -, hg2, R2⟩ := HA.hifs.elem (n := 12) (by decide) (fun _ => rfl) hjx
  have k0 : wy.cell? ⟨g2, o2 + j * 12, none⟩ = some (.string (str x.ifs[j].name)) := rangeBelow R2 (H3.out.b.mono HBB.out) hg2 0 _ rfl
  rw [hv2] at ev2
  injection ev2 with e1 e2 e3
  subst e1 e3
  generalize x.ifs[j].name = nm at k0
  clear R2 hj
  go_wp2_with fail
  go_quiet (fail)
  go_wp2_with fail
  go_ret2
  exact ⟨⟨x.name, nm, rfl⟩, (H3.out.keep (drewN_below _ _)).b⟩
end Go.Proofs.YtnhemjdmleilcaaGreatDoor
