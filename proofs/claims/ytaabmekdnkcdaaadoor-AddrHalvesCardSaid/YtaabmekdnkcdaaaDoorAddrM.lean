/- The walks of the laws AddrTexts, AddrMasks, AddrOrder, AddrRoundTrip. Conditions: Env, the library's own tables. -/
import Derived.Test.YtaabmekdnkcdaaaDoorAddrJ
import Derived.Lib.MinMax
namespace Go.Proofs.YtaabmekdnkcdaaaDoor
open Go.RowKit

set_option maxHeartbeats 1000000 in
theorem addrTexts_walk (s : ByteArray) (w : World) (he : Env w) : Calls Tryd.prog 5 #[.string s] w fun e w' => e = .returned (.bool true) ∧ Below w.heap.size w w' := by
  have HE := Lib.hid he
  clear he
  by_cases h : 60 < s.size
  · go_enter Tryd.func5, Tryd.ntmps5
    go_wp2_with fail
    go_ret
    exact ⟨rfl, Below.refl _ _⟩
  · have d1 : decide ((60 : Int) < s.size) = false := by simp; omega
    have H1 := Lib.hid (fun w he => parseHost_any s w he (by omega))
    have H2 := Lib.hid (fun w => rhost_any s w (by omega))
    have H3 := Lib.hid (fun w he => parsePrefix_any s w he (by omega))
    have H4 := Lib.hid (fun w => readPrefix_any s w (by omega))
    generalize hostA (bytes s) = o at H1 H2
    generalize pfxA (bytes s) = o2 at H3 H4
    unfold HostPost at H1 H2
    unfold PfxPost PV at H3 H4
    generalize (o.getD (0, 0)).1 = a1, (o.getD (0, 0)).2 = n1, o.isSome = b1 at H1 H2
    generalize (o2.getD (0, 0)).1 = a2, (o2.getD (0, 0)).2 = n2, o2.isSome = b2 at H3 H4
    have hr := pfx_eql a2 a2 n2 n2
    rw [show decide (a2 = a2 ∧ n2 = n2) = true from by simp] at hr
    have hg := Tryd.pfxGuard
    go_enter Tryd.func5, Tryd.ntmps5
    go_wp2_with fail
    refine (H1.out _ HE.out).mono ?_
    rintro e w1 ⟨rfl, hb1⟩
    go_wp2_with fail
    refine (H2.out _).mono ?_
    rintro e w2 ⟨rfl, hb2⟩
    have z1 := hb1.size
    have z2 := hb2.size
    have B2 : Below w.heap.size w w2 := hb1.trans (hb2.mono z1)
    clear hb1 hb2
    go_wp2_with fail
    refine (H3.out _ (HE.out.below B2)).mono ?_
    rintro e w3 ⟨rfl, hb3⟩
    have z3 := hb3.size
    have B3 : Below w.heap.size w w3 := B2.trans (hb3.mono (by omega))
    clear hb3
    go_wp2_with fail
    refine (H4.out _).mono ?_
    rintro e w4 ⟨rfl, hb4⟩
    obtain ⟨hb, z4, c0, c1, f0⟩ := res_box hb4
    have B4 : Below w.heap.size w w4 := B3.trans (hb.mono (by omega))
    have c0' := cell_alloc' z4 c0
    have c1' := cell_alloc' z4 c1
    clear hb4 hb f0
    go_wp2_with fail
    have B5 : Below w.heap.size w (w4.alloc (.cells #[.int .u32 (a2 : Int), .int .i64 n2] 32)) := B4.alloc B4.size _
    refine (sane2_any _ (HE.out.below B5)).mono ?_
    rintro e w5 ⟨rfl, hb5⟩
    go_wp2_with fail
    go_ret
    exact ⟨rfl, B5.trans (hb5.mono (by simp; omega))⟩

theorem maskN_inj {k j : Nat} (hk : k ≤ 32) (hj : j ≤ 32) (h : maskN (k : Int) = maskN (j : Int)) : k = j := by
  have h1 := sz_le (k : Int)
  have h2 := sz_le (j : Int)
  have e : sz (k : Int) = sz (j : Int) := by unfold maskN at h; omega
  unfold sz at e
  have e2 := Nat.pow_right_inj (by omega : 1 < 2) |>.1 e
  unfold clampN at e2
  omega
theorem maskLen_at (c : Nat) (hc : c ≤ 32) : ∀ g k : Nat, k + g = 33 → k ≤ c → maskLenP (maskN (c : Int)) g = some c := by
  intro g
  induction g with
  | zero => intro k h1 h2; omega
  | succ g ih =>
    intro k h1 h2
    unfold maskLenP
    have e : 33 - (g + 1) = k := by omega
    rw [e]
    by_cases hkc : k = c
    · subst hkc; rw [if_pos rfl]
    · rw [if_neg (fun h => hkc (maskN_inj (by omega) hc h))]
      exact ih (k + 1) (by omega) (by omega)
theorem maskN_clamp (n : Int) : maskN ((clampN n : Nat) : Int) = maskN n := by unfold maskN sz clampN; congr 3; omega
theorem maskLen_mask (n : Int) : maskLenP (maskN n) 33 = some (clampN n) := by
  rw [← maskN_clamp n]
  exact maskLen_at (clampN n) (clampN_le n) 33 0 rfl (by omega)

theorem masklen_back {n c : Int} (h : (clampN n : Int) = c) (w : World) : Calls Tryd.prog 32 #[.int .u32 (maskN n : Int)] w fun e w' => e = .returned (.tuple #[.int .i64 c, .bool true]) ∧ w = w' := by
  subst h
  refine (masklen_any (maskN n) w).mono ?_
  rw [maskLen_mask]
  exact fun e w' h => h

set_option maxRecDepth 100000 in
set_option maxHeartbeats 2000000 in
theorem addrMasks_walk (n : Int) (m : Nat) (w : World) (he : Env w) (_ : (Lit.int .i64 n).wf = true) (_ : m < 4294967296) : Calls Tryd.prog 9 #[.int .i64 n, .int .u32 (m : Int)] w fun e w' => e = .returned (.bool true) ∧ Below w.heap.size w w' := by
  have HE := Lib.hid he
  clear he
  have H1 := Lib.hid (fun w => masklen_any m w)
  have H2 := Lib.hid (fun w => rmasklen_any m w)
  generalize (maskLenP m 33).getD 0 = a1, (maskLenP m 33).isSome = b1 at H1 H2
  have H3 := Lib.hid (fun w => masklen_back (n := n) rfl w)
  have D : ((clampN n : Int) == max (min n 32) 0) = true := by rw [clampN_cast n]; simp; omega
  have hcl : 0 ≤ (clampN n : Int) := by omega
  go_enter Tryd.func9, Tryd.ntmps9
  go_wp2_with fail
  refine (H1.out _).mono ?_
  rintro e w1 ⟨rfl, rfl⟩
  go_wp2_with fail
  refine (H2.out _).mono ?_
  rintro e w1 ⟨rfl, rfl⟩
  go_wp2_with fail
  refine (mask_any _ _).mono ?_
  rintro e w1 ⟨rfl, rfl⟩
  go_wp2_with fail
  refine (H3.out _).mono ?_
  rintro e w1 ⟨rfl, rfl⟩
  go_wp2_with fail
  refine (mask_any _ _).mono ?_
  rintro e w1 ⟨rfl, rfl⟩
  go_wp2_with fail
  refine (rmask_any _ _).mono ?_
  rintro e w1 ⟨rfl, rfl⟩
  go_wp2_with fail
  all_goals (refine (sane2_any _ HE.out).mono ?_; rintro e w5 ⟨rfl, hb5⟩; go_wp2_with fail; go_ret; exact ⟨rfl, hb5⟩)

theorem cmpP_neg (p : Nat) (n : Int) (q : Nat) (m : Int) : cmpP q m p n = -cmpP p n q m := by
  unfold cmpP; repeat' split
  all_goals omega
theorem cmpP_zero (p : Nat) (n : Int) (q : Nat) (m : Int) : decide (p = q ∧ n = m) = (cmpP p n q m == 0) := by
  rw [Bool.eq_iff_iff]
  simp only [decide_eq_true_eq, beq_iff_eq]
  unfold cmpP; repeat' split
  all_goals omega
theorem cmpP_trans {p : Nat} {n : Int} {q : Nat} {m : Int} {r : Nat} {k : Int} (h1 : ¬ 0 < cmpP p n q m) (h2 : ¬ 0 < cmpP q m r k) : cmpP p n r k ≤ 0 := by
  unfold cmpP at *
  (repeat' split at h1) <;> (repeat' split at h2) <;> (repeat' split) <;> omega
theorem cmpP_bd (p : Nat) (n : Int) (q : Nat) (m : Int) : -1 ≤ cmpP p n q m ∧ cmpP p n q m ≤ 1 := by
  unfold cmpP; repeat' split
  all_goals omega
/-- Three prefixes in the boxes z, z + 1, z + 1 + 1. -/
def Box3 (z : Nat) (p : Nat) (n : Int) (q : Nat) (m : Int) (r : Nat) (k : Int) (w : World) : Prop :=
  (w.cell? ⟨z, 0, none⟩ = some (.int .u32 (p : Int)) ∧ w.cell? ⟨z, 1, none⟩ = some (.int .i64 n) ∧ w.cell? ⟨z + 1, 0, none⟩ = some (.int .u32 (q : Int)) ∧ w.cell? ⟨z + 1, 1, none⟩ = some (.int .i64 m) ∧
    w.cell? ⟨z + 1 + 1, 0, none⟩ = some (.int .u32 (r : Int)) ∧ w.cell? ⟨z + 1 + 1, 1, none⟩ = some (.int .i64 k)) ∧ z + 3 ≤ w.heap.size
theorem Box3.below {z : Nat} {p : Nat} {n : Int} {q : Nat} {m : Int} {r : Nat} {k : Int} {w w' : World} (h : Box3 z p n q m r k w) (hb : Below w.heap.size w w') : Box3 z p n q m r k w' := by
  obtain ⟨⟨h1, h2, h3, h4, h5, h6⟩, hz⟩ := h
  have hs := hb.size
  exact ⟨⟨(hb.cell (p := ⟨z, 0, none⟩) (by show z < _; omega)).trans h1, (hb.cell (p := ⟨z, 1, none⟩) (by show z < _; omega)).trans h2, (hb.cell (p := ⟨z + 1, 0, none⟩) (by show z + 1 < _; omega)).trans h3,
    (hb.cell (p := ⟨z + 1, 1, none⟩) (by show z + 1 < _; omega)).trans h4, (hb.cell (p := ⟨z + 1 + 1, 0, none⟩) (by show z + 1 + 1 < _; omega)).trans h5, (hb.cell (p := ⟨z + 1 + 1, 1, none⟩) (by show z + 1 + 1 < _; omega)).trans h6⟩, by omega⟩
theorem box3_new (w : World) (p : Nat) (n : Int) (q : Nat) (m : Int) (r : Nat) (k : Int) (t : TypeId) :
    Box3 w.heap.size p n q m r k (((w.alloc (.cells #[.int .u32 (p : Int), .int .i64 n] t)).alloc (.cells #[.int .u32 (q : Int), .int .i64 m] t)).alloc (.cells #[.int .u32 (r : Int), .int .i64 k] t)) := by
  have e1 : ∀ (o : Obj), (w.alloc o).heap.size = w.heap.size + 1 := fun o => by simp
  have e2 : ∀ (o1 o2 : Obj), ((w.alloc o1).alloc o2).heap.size = (w.alloc o1).heap.size + 1 := fun o1 o2 => by simp
  refine ⟨⟨?_, ?_, ?_, ?_, ?_, ?_⟩, by simp⟩
  · rw [World.cell?_alloc_lt _ _ _ (by simp; omega), World.cell?_alloc_lt _ _ _ (by simp), new_cell]; rfl
  · rw [World.cell?_alloc_lt _ _ _ (by simp; omega), World.cell?_alloc_lt _ _ _ (by simp), new_cell]; rfl
  · rw [World.cell?_alloc_lt _ _ _ (by simp), ← e1, new_cell]; rfl
  · rw [World.cell?_alloc_lt _ _ _ (by simp), ← e1, new_cell]; rfl
  · rw [← e1 (.cells #[.int .u32 (p : Int), .int .i64 n] t), ← e2 (.cells #[.int .u32 (p : Int), .int .i64 n] t) (.cells #[.int .u32 (q : Int), .int .i64 m] t), new_cell]; rfl
  · rw [← e1 (.cells #[.int .u32 (p : Int), .int .i64 n] t), ← e2 (.cells #[.int .u32 (p : Int), .int .i64 n] t) (.cells #[.int .u32 (q : Int), .int .i64 m] t), new_cell]; rfl
theorem below3 (w : World) (o1 o2 o3 : Obj) : Below w.heap.size w (((w.alloc o1).alloc o2).alloc o3) := (((Below.refl _ w).alloc (Nat.le_refl _) _).alloc (by simp) _).alloc (by simp; omega) _
theorem compare_to {p : Nat} {n : Int} {q : Nat} {m c : Int} (h : cmpP p n q m = c) (w : World) : Calls Tryd.prog 39 #[.agg #[.int .u32 (p : Int), .int .i64 n], .agg #[.int .u32 (q : Int), .int .i64 m]] w fun e w' => e = .returned (.int .i64 c) ∧ Below w.heap.size w w' := by
  subst h; exact compare_any p n q m w
theorem rcompare_to {p : Nat} {n : Int} {q : Nat} {m c : Int} (h : cmpP p n q m = c) (w : World) : Calls Tryd.prog 40 #[.agg #[.int .u32 (p : Int), .int .i64 n], .agg #[.int .u32 (q : Int), .int .i64 m]] w fun e w' => e = .returned (.int .i64 c) ∧ Below w.heap.size w w' := by
  subst h; exact rcompare_any p n q m w
end Go.Proofs.YtaabmekdnkcdaaaDoor
