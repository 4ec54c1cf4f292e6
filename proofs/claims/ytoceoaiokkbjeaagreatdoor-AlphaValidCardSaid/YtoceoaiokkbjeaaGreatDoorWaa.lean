/- slices.Delete of one element at more types. Condition: as in DelW. -/
import Derived.Test.YtoceoaiokkbjeaaGreatDoorWy
set_option maxRecDepth 8000
set_option maxHeartbeats 4000000
namespace Go.Proofs.YtoceoaiokkbjeaaGreatDoor
open Lib (hid)
open Go.RowKit
theorem Tryz.infoDLPRule : (Tryz.prog.info? 135).map (fun i => (i.zero.map (fun z => z.cells.size), i.size, i.bytes)) = some (some 3, 3, 64) := by kernel_rfl
theorem Tryz.oneDLPRule : (Tryz.prog.info? 135).map (fun i => i.zero.map (fun z => z.cells.toList.all (·.oneCell'))) = some (some true) := by kernel_rfl
theorem delAtLPRule_any (B : Nat) (v : Value) (l : List (Lm PRule)) (i : Nat) (w : World) (h : OwnE w B 135 3 Lm.C v l) (hi : i < l.length) :
  Calls Tryz.prog 216 #[v, .int .i64 (i : Int), .int .i64 ((i : Int) + 1)] w (EPost B 135 3 Lm.C v (delAt l i) w) := by
 obtain ⟨g, cap, cur, rfl, hB, hC, hc1, hc2, hsz, hfl⟩ := h.blk (by omega)
 obtain ⟨i0, z0, hi0, hz0, hk0, hs0, -⟩ := zBs Tryz.infoDLPRule
 have hone := zFm Tryz.oneDLPRule hi0 hz0
 simp only [maxLen] at hc2
 have hcs : l.length * 3 ≤ cur.size := by rw [hsz]; exact Nat.mul_le_mul_right _ hc1
 have hQl : ((l.drop (i + 1)).flatMap fun x => (Lm.C x).toList).length = (l.length - (i + 1)) * 3 := by rw [zBv (cells := Lm.C) (n := 3) (fun _ => rfl), List.length_drop]
 have hap : ∀ (ty : TypeId) (A : Option Addr) (c : Nat), (i + 1 < l.length → A = some ⟨g, (i + 1) * 3, none⟩) → A ≠ none → (Builtin.append_ #[82, 82] ty #[.slice (some ⟨g, 0, none⟩) i cap, .slice A (l.length - (i + 1)) c]).run Tryz.prog w.drew = .ok (.slice (some ⟨g, 0, none⟩) (l.length - 1) cap) (w.drew.setCells g (i * 3) ((l.drop (i + 1)).flatMap fun x => (Lm.C x).toList)) := fun ty A c hA hn => by
  obtain ⟨ad, rfl⟩ := Option.ne_none_iff_exists'.1 hn
  have h := run_append_room_cells (P := Tryz.prog) w.drew 82 ty 135 i0 Tryz.underlying82 hi0 g 0 i cap ad (l.length - (i + 1)) c ((l.drop (i + 1)).flatMap fun x => (Lm.C x).toList) (by rw [hs0, hQl])
   (fun j v hj => by
    have hlt : i + 1 < l.length := by
     rcases Nat.lt_or_ge (i + 1) l.length with h | h
     ·exact h
     ·rw [List.drop_eq_nil_of_le h] at hj; simp at hj
    have e := hA hlt
    injection e with e
    rw [e, Addr.add_lit]
    refine zBz (w := w.drew) hC hfl ((i + 1) * 3) ((l.length - (i + 1)) * 3) j v ?_
    rw [zCh (cells := Lm.C) (n := 3) (fun _ => rfl), List.take_of_length_le (by rw [hQl]; exact Nat.le_refl _)]
    exact hj)
   (zDj Lm.one _) (by omega)
   (fun j hj => HasC.isSome (w := w.drew) hC (by rw [hs0]; rw [hQl] at hj; omega)) (fun j _ => HasC.frz (w := w.drew) hC _)
  rw [hs0, show i + (l.length - (i + 1)) = l.length - 1 from by omega, show 0 + i * 3 = i * 3 from by omega] at h
  exact h
 obtain ⟨W1, hW1⟩ : ∃ W1, W1 = w.drew.setCells g (i * 3) ((l.drop (i + 1)).flatMap fun x => (Lm.C x).toList) := ⟨_, rfl⟩
 have hC1 : HasC 135 g (zAt cur (i * 3) ((l.drop (i + 1)).flatMap fun x => (Lm.C x).toList)) W1 := by rw [hW1]; exact HasC.set (w := w.drew) hC _ _
 have hG1 : w.grownBy W1 (some g) := by rw [hW1]; exact zBn (zAi _ _ _ _)
 have hcl : ∀ ty c, (Builtin.clear_ #[82] ty #[.slice (some ⟨g, (l.length - 1) * 3, none⟩) 1 c]).run Tryz.prog W1 = .ok (.tuple #[]) (W1.setCells g ((l.length - 1) * 3) (Builtin.zeroCells z0.cells 1).toList) := fun ty c => by
  refine zCn W1 _ 135 ty z0 Tryz.underlying82 (fun w => by simp [zeroValue, typeInfo, hi0, hz0]) hone g ((l.length - 1) * 3) 1 c (by decide) (fun t ht => ?_) (fun t _ => hC1.frz _)
  rw [hk0] at ht
  exact hC1.isSome (by rw [zAj]; omega)
 have hfin := zFu (cells := Lm.C) (n := 3) (fun _ => rfl) hi hcs hfl
 have hlen : (delAt l i).length = l.length - 1 := zEi hi
 generalize (Builtin.zeroCells z0.cells 1).toList = zs at hcl
 have hfin2 : (zAt (zAt cur (i * 3) ((l.drop (i + 1)).flatMap fun x => (Lm.C x).toList)) ((l.length - 1) * 3) zs).toList.take ((delAt l i).length * 3) = (delAt l i).flatMap fun x => (Lm.C x).toList := by
  rw [hlen, show (l.length - 1) * 3 = (l.length - 1) * 3 from by omega, zDe]
  exact hfin
 have HE : Hid (EPost B 135 3 Lm.C (.slice (some ⟨g, 0, none⟩) l.length cap) (delAt l i) w (.returned (.slice (some ⟨g, 0, none⟩) (l.length - 1) cap)) (W1.setCells g ((l.length - 1) * 3) zs)) := hid ⟨_, rfl, OwnE.of_blk (g := g) (cap := cap) (by rw [hlen]) hB (hC1.set _ _) (by rw [hlen]; omega) (by simp only [maxLen]; omega) (by rw [zAj, zAj]; exact hsz) hfin2 (fun _ => rfl), .inl rfl, hG1.trans (zAi _ _ _ _)⟩
 rw [← hW1] at hap
 have HAP := hid hap
 have HCL := hid hcl
 clear hap hcl hfin hfin2 hlen hW1 hC1 hG1 h hC hfl hQl hi0 hz0 hk0 hs0 hone hcs hsz hB
 have hw1 : IntKind.i64.wrap ((i : Int) + 1) = (i : Int) + 1 := by rw [IntKind.wrap_i64]; omega
 have hb1 : (0 : Int) ≤ (i : Int) + 1 := by omega
 have htn : ((i : Int) + 1).toNat = i + 1 := by omega
 have hin : i ≤ l.length := by omega
 have hin1 : i + 1 ≤ l.length := by omega
 have hb5 : (i : Int) ≤ (l.length : Int) := by omega
 have hb6 : (i : Int) + 1 ≤ (l.length : Int) := by omega
 have hb7 : (i : Int) < (l.length : Int) := by omega
 have hb8 : ((l.length - 1 : Nat) : Int) ≤ (l.length : Int) := by omega
 have hb9 : l.length - 1 ≤ l.length := by omega
 have hb10 : l.length - (l.length - 1) = 1 := by omega
 have hb11 : ¬ (cap = l.length - 1) := by omega
 have hb12 : ¬ (cap = i) := by omega
 have hb13 : (i : Int) ≤ (cap : Int) := by omega
 have hb14 : i ≤ cap := by omega
 have hb15 : (i : Int) ≤ (i : Int) + 1 := by omega
 by_cases hca : cap = i + 1
 ·subst hca
  go_enter Tryz.func216, Tryz.ntmps216
  go_wp2_with fail
  go_region_law (refine zBk rfl _ _ 82 82 rfl (.slice (some ⟨g, 0, none⟩) i (i + 1)) (.slice (some ⟨g, 0, none⟩) (l.length - (i + 1)) (i + 1 - (i + 1))) (by simp [Act.eval, Act.put]) (by simp [Act.eval, Act.put]; omega) (HAP.out 82 _ _ (fun h => by omega) (by simp)) ?_)
  go_wp2_with (simp only [HCL.out])
  go_ret
  exact HE.out
 ·go_enter Tryz.func216, Tryz.ntmps216
  go_wp2_with fail
  go_region_law (refine zBk rfl _ _ 82 82 rfl (.slice (some ⟨g, 0, none⟩) i cap) (.slice (some ⟨g, (i + 1) * 3, none⟩) (l.length - (i + 1)) (cap - (i + 1))) (by simp [Act.eval, Act.put]) (by simp [Act.eval, Act.put]) (HAP.out 82 _ _ (fun _ => rfl) (by simp)) ?_)
  go_wp2_with (simp only [HCL.out])
  go_ret
  exact HE.out
theorem Tryz.infoDLCl : (Tryz.prog.info? 137).map (fun i => (i.zero.map (fun z => z.cells.size), i.size, i.bytes)) = some (some 3, 3, 64) := by kernel_rfl
theorem Tryz.oneDLCl : (Tryz.prog.info? 137).map (fun i => i.zero.map (fun z => z.cells.toList.all (·.oneCell'))) = some (some true) := by kernel_rfl
theorem delAtLCl_any (B : Nat) (v : Value) (l : List (Lm Cl)) (i : Nat) (w : World) (h : OwnE w B 137 3 Lm.C v l) (hi : i < l.length) :
  Calls Tryz.prog 220 #[v, .int .i64 (i : Int), .int .i64 ((i : Int) + 1)] w (EPost B 137 3 Lm.C v (delAt l i) w) := by
 obtain ⟨g, cap, cur, rfl, hB, hC, hc1, hc2, hsz, hfl⟩ := h.blk (by omega)
 obtain ⟨i0, z0, hi0, hz0, hk0, hs0, -⟩ := zBs Tryz.infoDLCl
 have hone := zFm Tryz.oneDLCl hi0 hz0
 simp only [maxLen] at hc2
 have hcs : l.length * 3 ≤ cur.size := by rw [hsz]; exact Nat.mul_le_mul_right _ hc1
 have hQl : ((l.drop (i + 1)).flatMap fun x => (Lm.C x).toList).length = (l.length - (i + 1)) * 3 := by rw [zBv (cells := Lm.C) (n := 3) (fun _ => rfl), List.length_drop]
 have hap : ∀ (ty : TypeId) (A : Option Addr) (c : Nat), (i + 1 < l.length → A = some ⟨g, (i + 1) * 3, none⟩) → A ≠ none → (Builtin.append_ #[83, 83] ty #[.slice (some ⟨g, 0, none⟩) i cap, .slice A (l.length - (i + 1)) c]).run Tryz.prog w.drew = .ok (.slice (some ⟨g, 0, none⟩) (l.length - 1) cap) (w.drew.setCells g (i * 3) ((l.drop (i + 1)).flatMap fun x => (Lm.C x).toList)) := fun ty A c hA hn => by
  obtain ⟨ad, rfl⟩ := Option.ne_none_iff_exists'.1 hn
  have h := run_append_room_cells (P := Tryz.prog) w.drew 83 ty 137 i0 Tryz.underlying83 hi0 g 0 i cap ad (l.length - (i + 1)) c ((l.drop (i + 1)).flatMap fun x => (Lm.C x).toList) (by rw [hs0, hQl])
   (fun j v hj => by
    have hlt : i + 1 < l.length := by
     rcases Nat.lt_or_ge (i + 1) l.length with h | h
     ·exact h
     ·rw [List.drop_eq_nil_of_le h] at hj; simp at hj
    have e := hA hlt
    injection e with e
    rw [e, Addr.add_lit]
    refine zBz (w := w.drew) hC hfl ((i + 1) * 3) ((l.length - (i + 1)) * 3) j v ?_
    rw [zCh (cells := Lm.C) (n := 3) (fun _ => rfl), List.take_of_length_le (by rw [hQl]; exact Nat.le_refl _)]
    exact hj)
   (zDj Lm.one _) (by omega)
   (fun j hj => HasC.isSome (w := w.drew) hC (by rw [hs0]; rw [hQl] at hj; omega)) (fun j _ => HasC.frz (w := w.drew) hC _)
  rw [hs0, show i + (l.length - (i + 1)) = l.length - 1 from by omega, show 0 + i * 3 = i * 3 from by omega] at h
  exact h
 obtain ⟨W1, hW1⟩ : ∃ W1, W1 = w.drew.setCells g (i * 3) ((l.drop (i + 1)).flatMap fun x => (Lm.C x).toList) := ⟨_, rfl⟩
 have hC1 : HasC 137 g (zAt cur (i * 3) ((l.drop (i + 1)).flatMap fun x => (Lm.C x).toList)) W1 := by rw [hW1]; exact HasC.set (w := w.drew) hC _ _
 have hG1 : w.grownBy W1 (some g) := by rw [hW1]; exact zBn (zAi _ _ _ _)
 have hcl : ∀ ty c, (Builtin.clear_ #[83] ty #[.slice (some ⟨g, (l.length - 1) * 3, none⟩) 1 c]).run Tryz.prog W1 = .ok (.tuple #[]) (W1.setCells g ((l.length - 1) * 3) (Builtin.zeroCells z0.cells 1).toList) := fun ty c => by
  refine zCn W1 _ 137 ty z0 Tryz.underlying83 (fun w => by simp [zeroValue, typeInfo, hi0, hz0]) hone g ((l.length - 1) * 3) 1 c (by decide) (fun t ht => ?_) (fun t _ => hC1.frz _)
  rw [hk0] at ht
  exact hC1.isSome (by rw [zAj]; omega)
 have hfin := zFu (cells := Lm.C) (n := 3) (fun _ => rfl) hi hcs hfl
 have hlen : (delAt l i).length = l.length - 1 := zEi hi
 generalize (Builtin.zeroCells z0.cells 1).toList = zs at hcl
 have hfin2 : (zAt (zAt cur (i * 3) ((l.drop (i + 1)).flatMap fun x => (Lm.C x).toList)) ((l.length - 1) * 3) zs).toList.take ((delAt l i).length * 3) = (delAt l i).flatMap fun x => (Lm.C x).toList := by
  rw [hlen, show (l.length - 1) * 3 = (l.length - 1) * 3 from by omega, zDe]
  exact hfin
 have HE : Hid (EPost B 137 3 Lm.C (.slice (some ⟨g, 0, none⟩) l.length cap) (delAt l i) w (.returned (.slice (some ⟨g, 0, none⟩) (l.length - 1) cap)) (W1.setCells g ((l.length - 1) * 3) zs)) := hid ⟨_, rfl, OwnE.of_blk (g := g) (cap := cap) (by rw [hlen]) hB (hC1.set _ _) (by rw [hlen]; omega) (by simp only [maxLen]; omega) (by rw [zAj, zAj]; exact hsz) hfin2 (fun _ => rfl), .inl rfl, hG1.trans (zAi _ _ _ _)⟩
 rw [← hW1] at hap
 have HAP := hid hap
 have HCL := hid hcl
 clear hap hcl hfin hfin2 hlen hW1 hC1 hG1 h hC hfl hQl hi0 hz0 hk0 hs0 hone hcs hsz hB
 have hw1 : IntKind.i64.wrap ((i : Int) + 1) = (i : Int) + 1 := by rw [IntKind.wrap_i64]; omega
 have hb1 : (0 : Int) ≤ (i : Int) + 1 := by omega
 have htn : ((i : Int) + 1).toNat = i + 1 := by omega
 have hin : i ≤ l.length := by omega
 have hin1 : i + 1 ≤ l.length := by omega
 have hb5 : (i : Int) ≤ (l.length : Int) := by omega
 have hb6 : (i : Int) + 1 ≤ (l.length : Int) := by omega
 have hb7 : (i : Int) < (l.length : Int) := by omega
 have hb8 : ((l.length - 1 : Nat) : Int) ≤ (l.length : Int) := by omega
 have hb9 : l.length - 1 ≤ l.length := by omega
 have hb10 : l.length - (l.length - 1) = 1 := by omega
 have hb11 : ¬ (cap = l.length - 1) := by omega
 have hb12 : ¬ (cap = i) := by omega
 have hb13 : (i : Int) ≤ (cap : Int) := by omega
 have hb14 : i ≤ cap := by omega
 have hb15 : (i : Int) ≤ (i : Int) + 1 := by omega
 by_cases hca : cap = i + 1
 ·subst hca
  go_enter Tryz.func220, Tryz.ntmps220
  go_wp2_with fail
  go_region_law (refine zBk rfl _ _ 83 83 rfl (.slice (some ⟨g, 0, none⟩) i (i + 1)) (.slice (some ⟨g, 0, none⟩) (l.length - (i + 1)) (i + 1 - (i + 1))) (by simp [Act.eval, Act.put]) (by simp [Act.eval, Act.put]; omega) (HAP.out 83 _ _ (fun h => by omega) (by simp)) ?_)
  go_wp2_with (simp only [HCL.out])
  go_ret
  exact HE.out
 ·go_enter Tryz.func220, Tryz.ntmps220
  go_wp2_with fail
  go_region_law (refine zBk rfl _ _ 83 83 rfl (.slice (some ⟨g, 0, none⟩) i cap) (.slice (some ⟨g, (i + 1) * 3, none⟩) (l.length - (i + 1)) (cap - (i + 1))) (by simp [Act.eval, Act.put]) (by simp [Act.eval, Act.put]) (HAP.out 83 _ _ (fun _ => rfl) (by simp)) ?_)
  go_wp2_with (simp only [HCL.out])
  go_ret
  exact HE.out
theorem Tryz.infoDLRu : (Tryz.prog.info? 139).map (fun i => (i.zero.map (fun z => z.cells.size), i.size, i.bytes)) = some (some 3, 3, 64) := by kernel_rfl
theorem Tryz.oneDLRu : (Tryz.prog.info? 139).map (fun i => i.zero.map (fun z => z.cells.toList.all (·.oneCell'))) = some (some true) := by kernel_rfl
theorem delAtLRu_any (B : Nat) (v : Value) (l : List (Lm Ru)) (i : Nat) (w : World) (h : OwnE w B 139 3 Lm.C v l) (hi : i < l.length) :
  Calls Tryz.prog 224 #[v, .int .i64 (i : Int), .int .i64 ((i : Int) + 1)] w (EPost B 139 3 Lm.C v (delAt l i) w) := by
 obtain ⟨g, cap, cur, rfl, hB, hC, hc1, hc2, hsz, hfl⟩ := h.blk (by omega)
 obtain ⟨i0, z0, hi0, hz0, hk0, hs0, -⟩ := zBs Tryz.infoDLRu
 have hone := zFm Tryz.oneDLRu hi0 hz0
 simp only [maxLen] at hc2
 have hcs : l.length * 3 ≤ cur.size := by rw [hsz]; exact Nat.mul_le_mul_right _ hc1
 have hQl : ((l.drop (i + 1)).flatMap fun x => (Lm.C x).toList).length = (l.length - (i + 1)) * 3 := by rw [zBv (cells := Lm.C) (n := 3) (fun _ => rfl), List.length_drop]
 have hap : ∀ (ty : TypeId) (A : Option Addr) (c : Nat), (i + 1 < l.length → A = some ⟨g, (i + 1) * 3, none⟩) → A ≠ none → (Builtin.append_ #[84, 84] ty #[.slice (some ⟨g, 0, none⟩) i cap, .slice A (l.length - (i + 1)) c]).run Tryz.prog w.drew = .ok (.slice (some ⟨g, 0, none⟩) (l.length - 1) cap) (w.drew.setCells g (i * 3) ((l.drop (i + 1)).flatMap fun x => (Lm.C x).toList)) := fun ty A c hA hn => by
  obtain ⟨ad, rfl⟩ := Option.ne_none_iff_exists'.1 hn
  have h := run_append_room_cells (P := Tryz.prog) w.drew 84 ty 139 i0 Tryz.underlying84 hi0 g 0 i cap ad (l.length - (i + 1)) c ((l.drop (i + 1)).flatMap fun x => (Lm.C x).toList) (by rw [hs0, hQl])
   (fun j v hj => by
    have hlt : i + 1 < l.length := by
     rcases Nat.lt_or_ge (i + 1) l.length with h | h
     ·exact h
     ·rw [List.drop_eq_nil_of_le h] at hj; simp at hj
    have e := hA hlt
    injection e with e
    rw [e, Addr.add_lit]
    refine zBz (w := w.drew) hC hfl ((i + 1) * 3) ((l.length - (i + 1)) * 3) j v ?_
    rw [zCh (cells := Lm.C) (n := 3) (fun _ => rfl), List.take_of_length_le (by rw [hQl]; exact Nat.le_refl _)]
    exact hj)
   (zDj Lm.one _) (by omega)
   (fun j hj => HasC.isSome (w := w.drew) hC (by rw [hs0]; rw [hQl] at hj; omega)) (fun j _ => HasC.frz (w := w.drew) hC _)
  rw [hs0, show i + (l.length - (i + 1)) = l.length - 1 from by omega, show 0 + i * 3 = i * 3 from by omega] at h
  exact h
 obtain ⟨W1, hW1⟩ : ∃ W1, W1 = w.drew.setCells g (i * 3) ((l.drop (i + 1)).flatMap fun x => (Lm.C x).toList) := ⟨_, rfl⟩
 have hC1 : HasC 139 g (zAt cur (i * 3) ((l.drop (i + 1)).flatMap fun x => (Lm.C x).toList)) W1 := by rw [hW1]; exact HasC.set (w := w.drew) hC _ _
 have hG1 : w.grownBy W1 (some g) := by rw [hW1]; exact zBn (zAi _ _ _ _)
 have hcl : ∀ ty c, (Builtin.clear_ #[84] ty #[.slice (some ⟨g, (l.length - 1) * 3, none⟩) 1 c]).run Tryz.prog W1 = .ok (.tuple #[]) (W1.setCells g ((l.length - 1) * 3) (Builtin.zeroCells z0.cells 1).toList) := fun ty c => by
  refine zCn W1 _ 139 ty z0 Tryz.underlying84 (fun w => by simp [zeroValue, typeInfo, hi0, hz0]) hone g ((l.length - 1) * 3) 1 c (by decide) (fun t ht => ?_) (fun t _ => hC1.frz _)
  rw [hk0] at ht
  exact hC1.isSome (by rw [zAj]; omega)
 have hfin := zFu (cells := Lm.C) (n := 3) (fun _ => rfl) hi hcs hfl
 have hlen : (delAt l i).length = l.length - 1 := zEi hi
 generalize (Builtin.zeroCells z0.cells 1).toList = zs at hcl
 have hfin2 : (zAt (zAt cur (i * 3) ((l.drop (i + 1)).flatMap fun x => (Lm.C x).toList)) ((l.length - 1) * 3) zs).toList.take ((delAt l i).length * 3) = (delAt l i).flatMap fun x => (Lm.C x).toList := by
  rw [hlen, show (l.length - 1) * 3 = (l.length - 1) * 3 from by omega, zDe]
  exact hfin
 have HE : Hid (EPost B 139 3 Lm.C (.slice (some ⟨g, 0, none⟩) l.length cap) (delAt l i) w (.returned (.slice (some ⟨g, 0, none⟩) (l.length - 1) cap)) (W1.setCells g ((l.length - 1) * 3) zs)) := hid ⟨_, rfl, OwnE.of_blk (g := g) (cap := cap) (by rw [hlen]) hB (hC1.set _ _) (by rw [hlen]; omega) (by simp only [maxLen]; omega) (by rw [zAj, zAj]; exact hsz) hfin2 (fun _ => rfl), .inl rfl, hG1.trans (zAi _ _ _ _)⟩
 rw [← hW1] at hap
 have HAP := hid hap
 have HCL := hid hcl
 clear hap hcl hfin hfin2 hlen hW1 hC1 hG1 h hC hfl hQl hi0 hz0 hk0 hs0 hone hcs hsz hB
 have hw1 : IntKind.i64.wrap ((i : Int) + 1) = (i : Int) + 1 := by rw [IntKind.wrap_i64]; omega
 have hb1 : (0 : Int) ≤ (i : Int) + 1 := by omega
 have htn : ((i : Int) + 1).toNat = i + 1 := by omega
 have hin : i ≤ l.length := by omega
 have hin1 : i + 1 ≤ l.length := by omega
 have hb5 : (i : Int) ≤ (l.length : Int) := by omega
 have hb6 : (i : Int) + 1 ≤ (l.length : Int) := by omega
 have hb7 : (i : Int) < (l.length : Int) := by omega
 have hb8 : ((l.length - 1 : Nat) : Int) ≤ (l.length : Int) := by omega
 have hb9 : l.length - 1 ≤ l.length := by omega
 have hb10 : l.length - (l.length - 1) = 1 := by omega
 have hb11 : ¬ (cap = l.length - 1) := by omega
 have hb12 : ¬ (cap = i) := by omega
 have hb13 : (i : Int) ≤ (cap : Int) := by omega
 have hb14 : i ≤ cap := by omega
 have hb15 : (i : Int) ≤ (i : Int) + 1 := by omega
 by_cases hca : cap = i + 1
 ·subst hca
  go_enter Tryz.func224, Tryz.ntmps224
  go_wp2_with fail
  go_region_law (refine zBk rfl _ _ 84 84 rfl (.slice (some ⟨g, 0, none⟩) i (i + 1)) (.slice (some ⟨g, 0, none⟩) (l.length - (i + 1)) (i + 1 - (i + 1))) (by simp [Act.eval, Act.put]) (by simp [Act.eval, Act.put]; omega) (HAP.out 84 _ _ (fun h => by omega) (by simp)) ?_)
  go_wp2_with (simp only [HCL.out])
  go_ret
  exact HE.out
 ·go_enter Tryz.func224, Tryz.ntmps224
  go_wp2_with fail
  go_region_law (refine zBk rfl _ _ 84 84 rfl (.slice (some ⟨g, 0, none⟩) i cap) (.slice (some ⟨g, (i + 1) * 3, none⟩) (l.length - (i + 1)) (cap - (i + 1))) (by simp [Act.eval, Act.put]) (by simp [Act.eval, Act.put]) (HAP.out 84 _ _ (fun _ => rfl) (by simp)) ?_)
  go_wp2_with (simp only [HCL.out])
  go_ret
  exact HE.out
end Go.Proofs.YtoceoaiokkbjeaaGreatDoor
