/- slices.Delete of one element. Condition: the slice is owned. -/
import Derived.Test.YtoceoaiokkbjeaaGreatDoorWx
import Derived.Deep.DeepAppendWide
import Derived.Test.YtoceoaiokkbjeaaGreatDoorWv
set_option maxRecDepth 8000
set_option maxHeartbeats 4000000
namespace Go.Proofs.YtoceoaiokkbjeaaGreatDoor
open Lib (hid)
open Go.RowKit
theorem zHu (x : Int) : (intC x).all (·.oneCell') = true := by
 rw [Array.all_eq_true_iff_forall_mem]
 intro v hv
 simp only [intC, List.mem_toArray, List.mem_cons, List.not_mem_nil, or_false] at hv
 subst hv
 rfl
theorem zDj {α : Type} {cells : α → Array Value} (h1 : ∀ x, (cells x).all (·.oneCell') = true) (l : List α) : ∀ u ∈ (l.flatMap fun x => (cells x).toList), u.oneCell' = true := by
 intro u hu
 obtain ⟨x, -, hx⟩ := List.mem_flatMap.1 hu
 exact Array.all_eq_true_iff_forall_mem.1 (h1 x) u (by simpa using hx)
theorem HasC.isSome {T : TypeId} {g : Nat} {cs : Array Value} {w : World} (h : HasC T g cs w) {j : Nat} (hj : j < cs.size) : (w.cell? ⟨g, j, none⟩).isSome = true := by
 rw [h.cell, Array.getElem?_eq_getElem hj]; rfl
theorem HasC.set {T : TypeId} {g : Nat} {cs : Array Value} {w : World} (h : HasC T g cs w) (o : Nat) (vs : List Value) : HasC T g (zAt cs o vs) (w.setCells g o vs) := zBq _ _ _ _ h
theorem zBn {w w' : World} {row : Option Nat} (h : w.drew.grownBy w' row) : w.grownBy w' row := ⟨h.os, h.tape, h.output, h.size, h.block⟩
theorem zBz {T : TypeId} {g : Nat} {cs : Array Value} {w : World} {L : List Value} {n : Nat} (h : HasC T g cs w) (hc : cs.toList.take n = L) (o k : Nat) (j : Nat) (v : Value) (hj : ((L.drop o).take k)[j]? = some v) : w.cell? ⟨g, o + j, none⟩ = some v := by
 rw [h.cell]
 have hj' : (L.drop o)[j]? = some v := by
  rw [List.getElem?_take] at hj
  split at hj
  ·exact hj
  ·cases hj
 rw [List.getElem?_drop, ← hc, List.getElem?_take] at hj'
 split at hj'
 ·rw [Array.getElem?_toList] at hj'; exact hj'
 ·cases hj'
theorem Tryz.infoIPRule : (Tryz.prog.info? 96).map (fun i => (i.zero.map (fun z => z.cells.size), i.size, i.bytes)) = some (some 5, 5, 40) := by kernel_rfl
theorem Tryz.szIPRule : (Tryz.prog.info? 96).map (·.size) = some 5 := by kernel_rfl
theorem Tryz.szofIPRule (w : World) : (Go.sizeOf 96).run Tryz.prog w = .ok 5 w := by kernel_rfl
theorem overlapsPRule (xb g o lb cb : Nat) (w : World) (cs ds : Array Value) (hx : HasC 96 xb cs w) (hg : HasC 96 g ds w) (hne : xb ≠ g) (hd : ds.size ≠ 0) :
  (callFunc 247 #[.slice (some ⟨xb, 0, none⟩) 1 1, .slice (some ⟨g, o, none⟩) lb cb]).run Tryz.prog w = .ok (.value (.bool false)) w := by
 have hsx : w.shape? xb = some (96, cs.size) := by simp [World.shape?, show w.heap[xb]? = _ from hx]
 have hsg : w.shape? g = some (96, ds.size) := by simp [World.shape?, show w.heap[g]? = _ from hg]
 rw [run_callFunc_extern (P := Tryz.prog) (fn := Tryz.f247) (by kernel_rfl) (by kernel_rfl) (by kernel_rfl) (by kernel_rfl) (e := Extern.SlicesOverlaps.overlaps #[92, 92] #[4]) (by kernel_rfl),
  Lib.run_overlaps_apart w 92 4 96 Tryz.underlying92 5 Tryz.szofIPRule ⟨xb, 0, none⟩ ⟨g, o, none⟩ 1 1 lb cb hne 96 96 cs.size ds.size hsx hsg hd (hx.frz _) (hx.frz _)]
 rfl
theorem insEndPRule (B : Nat) (v : Value) (l : List PRule) (x : PRule) (xb : Nat) (w : World) (h : OwnE w B 96 5 PRule.C v l) (hx : HasC 96 xb (PRule.C x) w) (hB : B ≤ w.heap.size) (hl : l.length ≤ 1000000000) :
  Calls Tryz.prog 227 #[v, .int .i64 (l.length : Int), .slice (some ⟨xb, 0, none⟩) 1 1] w (EPost B 96 5 PRule.C v (l ++ [x]) w) := by
 obtain ⟨i0, z0, hi0, hz0, hk0, hs0, hb0⟩ := zBs Tryz.infoIPRule
 have Hi0 := hid hi0
 have Hz0 := hid hz0
 have Hk0 := hid hk0
 have Hs0 := hid hs0
 have Hb0 := hid hb0
 have H1 := hid (fun u hu => Array.all_eq_true_iff_forall_mem.1 (PRule.one x) u (by simpa using hu) : ∀ u ∈ (PRule.C x).toList, u.oneCell' = true)
 have HX := hid (fun j u hj => by rw [Addr.add_lit, Nat.zero_add, hx.cell]; simpa using hj : ∀ j u, (PRule.C x).toList[j]? = some u → w.cell? ((⟨xb, 0, none⟩ : Addr).add j) = some u)
 have H : Hid (w.ownsRow B 96 5 v l.length (l.flatMap fun x => (PRule.C x).toList)) := hid h
 have hform : (v = .slice none 0 0 ∧ l.length = 0) ∨ ∃ g cap, v = .slice (some ⟨g, 0, none⟩) l.length cap ∧ l.length ≤ cap ∧ cap ≤ maxLen := by
  rcases h.2 with h2 | ⟨g, cap, cur, h2, -, -, h4, h5, -⟩
  ·exact .inl h2
  ·exact .inr ⟨g, cap, h2, h4, h5⟩
 clear hi0 hz0 hk0 hs0 hb0 hx h
 have hend : ∀ v' w', w'.ownsRow B 96 5 v' (l.length + 1) ((l.flatMap fun x => (PRule.C x).toList) ++ (PRule.C x).toList) → w.grownBy w' v.ownBlock → (v'.ownBlock = v.ownBlock ∨ v'.ownBlock = some w.heap.size) → EPost B 96 5 PRule.C v (l ++ [x]) w (.returned v') w' :=
  fun v' w' ho hg hat => ⟨v', rfl, OwnE.snoc ho, hat.elim .inl (fun q => .inr (.inr ⟨_, q, Nat.le_refl _⟩)), hg⟩
 have HE := hid hend
 clear hend
 rcases hform with ⟨rfl, h0⟩ | ⟨g, cap, rfl, hc1, hc2⟩
 ·have H0 := hid h0
  have q0 : (l.length : Int) = 0 := by omega
  rw [q0]
  rw [h0] at H HE
  clear q0 h0
  go_enter Tryz.func227, Tryz.ntmps227
  go_wp2_with (at_builtin; refine wpList_append_own_at _ rfl _ _ 92 rfl B 96 i0 _ 5 40 Tryz.underlying92 Hi0.out Hz0.out Hs0.out Hb0.out Hk0.out (by decide) _ 0 _ rfl H.out ⟨xb, 0, none⟩ 1 1 (PRule.C x).toList rfl rfl HX.out H1.out (by decide) (by decide) hB ?_; intro v5 w5 ho5 hg5 _ hat5)
  go_ret
  exact HE.out v5 w5 ho5 hg5 hat5
 ·simp only [maxLen] at hc2
  rcases Nat.lt_or_eq_of_le hc1 with hlt | heq
  ·have hne : ¬ cap = l.length := by omega
   go_enter Tryz.func227, Tryz.ntmps227
   go_wp2_with (at_builtin; refine wpList_append_own_at _ rfl _ _ 92 rfl B 96 i0 _ 5 40 Tryz.underlying92 Hi0.out Hz0.out Hs0.out Hb0.out Hk0.out (by decide) _ l.length _ rfl H.out ⟨xb, 0, none⟩ 1 1 (PRule.C x).toList rfl rfl HX.out H1.out (by simp only [maxLen]; omega) (by omega) hB ?_; intro v5 w5 ho5 hg5 _ hat5)
   go_ret
   exact HE.out v5 w5 ho5 hg5 hat5
  ·subst heq
   go_enter Tryz.func227, Tryz.ntmps227
   go_wp2_with (at_builtin; refine wpList_append_own_at _ rfl _ _ 92 rfl B 96 i0 _ 5 40 Tryz.underlying92 Hi0.out Hz0.out Hs0.out Hb0.out Hk0.out (by decide) _ l.length _ rfl H.out ⟨xb, 0, none⟩ 1 1 (PRule.C x).toList rfl rfl HX.out H1.out (by simp only [maxLen]; omega) (by omega) hB ?_; intro v5 w5 ho5 hg5 _ hat5)
   go_ret
   exact HE.out v5 w5 ho5 hg5 hat5
theorem insRoomPRule (B : Nat) (g cap : Nat) (l : List PRule) (x : PRule) (i xb : Nat) (w : World) (h : OwnE w B 96 5 PRule.C (.slice (some ⟨g, 0, none⟩) l.length cap) l) (hx : HasC 96 xb (PRule.C x) w) (hne : g ≠ xb) (hi : i < l.length) (hr : l.length + 1 ≤ cap) (hl : l.length ≤ 1000000000) :
  Calls Tryz.prog 227 #[.slice (some ⟨g, 0, none⟩) l.length cap, .int .i64 (i : Int), .slice (some ⟨xb, 0, none⟩) 1 1] w (EPost B 96 5 PRule.C (.slice (some ⟨g, 0, none⟩) l.length cap) (insAt l i x) w) := by
 obtain ⟨g', cap', cur, e, hB, hC, hc1, hc2, hsz, hfl⟩ := h.blk (by omega)
 injection e with e1 _ e3
 injection e1 with e1
 injection e1 with e1 _ _
 subst e1 e3
 simp only [maxLen] at hc2
 have hcs : (l.length + 1) * 5 ≤ cur.size := by rw [hsz]; exact Nat.mul_le_mul_right _ hr
 have hQl : ((l.drop i).flatMap fun x => (PRule.C x).toList).length = (l.length - i) * 5 := by rw [zBv (cells := PRule.C) (n := 5) (fun _ => rfl), List.length_drop]
 have hov := fun lb cb => overlapsPRule xb g ((i + 1) * 5) lb cb w _ _ hx hC (Ne.symm hne) (by omega)
 have hcp1 : ∀ ty dc sc, (Builtin.copy_ #[92, 92] ty #[.slice (some ⟨g, (i + 1) * 5, none⟩) (l.length - i) dc, .slice (some ⟨g, i * 5, none⟩) (l.length + 1 - i) sc]).run Tryz.prog w.drew = .ok (goInt (l.length - i : Nat)) (w.drew.setCells g ((i + 1) * 5) ((l.drop i).flatMap fun x => (PRule.C x).toList)) := fun ty dc sc => by
  have := zAy (P := Tryz.prog) w.drew 92 92 ty 96 5 g ((i + 1) * 5) (l.length - i) dc ⟨g, i * 5, none⟩ (l.length + 1 - i) sc ((l.drop i).flatMap fun x => (PRule.C x).toList) Tryz.underlying92 Tryz.szIPRule (by rw [hQl]; congr 1; simp only [Nat.min_def]; split <;> omega)
   (fun j v hj => by
    rw [Addr.add_lit]
    refine zBz (w := w.drew) hC hfl (i * 5) ((l.length - i) * 5) j v ?_
    rw [zCh (cells := PRule.C) (n := 5) (fun _ => rfl), List.take_of_length_le (by rw [hQl]; exact Nat.le_refl _)]
    exact hj)
   (fun j hj => HasC.isSome (w := w.drew) hC (by rw [hQl] at hj; omega)) (fun j _ => HasC.frz (w := w.drew) hC _) (zDj PRule.one _)
  rw [this]
  congr 2
  simp only [Nat.min_def]; split <;> omega
 obtain ⟨W1, hW1⟩ : ∃ W1, W1 = w.drew.setCells g ((i + 1) * 5) ((l.drop i).flatMap fun x => (PRule.C x).toList) := ⟨_, rfl⟩
 have hC1 : HasC 96 g (zAt cur ((i + 1) * 5) ((l.drop i).flatMap fun x => (PRule.C x).toList)) W1 := by rw [hW1]; exact HasC.set (w := w.drew) hC _ _
 have hG1 : w.grownBy W1 (some g) := by rw [hW1]; exact zBn (zAi _ _ _ _)
 have hx1 : HasC 96 xb (PRule.C x) W1 := hx.grown hG1 (fun e => hne (by injection e with e; exact e.symm))
 have hcp2 : ∀ ty dc, (Builtin.copy_ #[92, 92] ty #[.slice (some ⟨g, i * 5, none⟩) (l.length + 1 - i) dc, .slice (some ⟨xb, 0, none⟩) 1 1]).run Tryz.prog W1 = .ok (goInt (1 : Nat)) (W1.setCells g (i * 5) (PRule.C x).toList) := fun ty dc => by
  have := zAy (P := Tryz.prog) W1 92 92 ty 96 5 g (i * 5) (l.length + 1 - i) dc ⟨xb, 0, none⟩ 1 1 (PRule.C x).toList Tryz.underlying92 Tryz.szIPRule (by rw [show Nat.min 1 (l.length + 1 - i) = 1 from by simp only [Nat.min_def]; split <;> omega]; rfl)
   (fun j v hj => by rw [Addr.add_lit, Nat.zero_add, hx1.cell]; simpa using hj)
   (fun j hj => hC1.isSome (by rw [zAj]; have : j < 5 := hj; omega)) (fun j _ => hC1.frz _) (fun u hu => Array.all_eq_true_iff_forall_mem.1 (PRule.one x) u (by simpa using hu))
  rw [this]
  congr 2
  simp only [Nat.min_def]; split <;> omega
 have hC2 : HasC 96 g (zAt (zAt cur ((i + 1) * 5) ((l.drop i).flatMap fun x => (PRule.C x).toList)) (i * 5) (PRule.C x).toList) (W1.setCells g (i * 5) (PRule.C x).toList) := hC1.set _ _
 have hfin := zJb (cells := PRule.C) (fun _ => rfl) (x := x) hi hcs hfl
 have hlen : (insAt l i x).length = l.length + 1 := zBt x
 have HE : Hid (EPost B 96 5 PRule.C (.slice (some ⟨g, 0, none⟩) l.length cap) (insAt l i x) w (.returned (.slice (some ⟨g, 0, none⟩) (l.length + 1) cap)) (W1.setCells g (i * 5) (PRule.C x).toList)) := hid ⟨_, rfl, OwnE.of_blk (g := g) (cap := cap) (by rw [hlen]) hB hC2 (by rw [hlen]; exact hr) (by simp only [maxLen]; omega) (by rw [zAj, zAj]; exact hsz) (by rw [hlen]; exact hfin) (fun _ => rfl), .inl rfl, hG1.trans (zAi _ _ _ _)⟩
 rw [← hW1] at hcp1
 have HCP1 := hid hcp1
 have HCP2 := hid hcp2
 clear hcp1 hcp2 hC2 hfin hlen hW1 hC1 hG1 hx1 h hx hC hfl hQl
 have hz2 : ¬ ((i : Int) = (l.length : Int)) := by omega
 have hw1 : IntKind.i64.wrap ((i : Int) + 1) = (i : Int) + 1 := by rw [IntKind.wrap_i64]; omega
 have hb1 : (0 : Int) ≤ (i : Int) + 1 := by omega
 have htn : ((i : Int) + 1).toNat = i + 1 := by omega
 have hb2 : ¬ (cap = i + 1) := by omega
 have hb3 : (i : Int) ≤ (l.length : Int) + 1 := by omega
 have hb4 : ¬ (cap = i) := by omega
 have hin : i ≤ l.length := by omega
 have hb5 : (i : Int) ≤ (l.length : Int) := by omega
 have hb6 : (i : Int) + 1 ≤ (l.length : Int) + 1 := by omega
 go_enter Tryz.func227, Tryz.ntmps227
 go_wp2_with (simp only [hov])
 go_region_law (refine zEf rfl _ _ 92 92 rfl (.slice (some ⟨g, (i + 1) * 5, none⟩) (l.length - i) (cap - (i + 1))) (.slice (some ⟨g, i * 5, none⟩) (l.length + 1 - i) (cap - i)) (by simp [Act.eval, Act.put]) (by simp [Act.eval, Act.put]) (HCP1.out 3 (cap - (i + 1)) (cap - i)) ?_)
 go_wp2_with (refine zDf rfl _ _ 92 92 rfl _ _ rfl rfl (HCP2.out _ _) ?_)
 go_ret
 exact HE.out
theorem insGrowPRule (B : Nat) (g : Nat) (l : List PRule) (x : PRule) (i xb : Nat) (w : World) (h : OwnE w B 96 5 PRule.C (.slice (some ⟨g, 0, none⟩) l.length l.length) l) (hx : HasC 96 xb (PRule.C x) w) (hi : i < l.length) (hl : l.length ≤ 1000000000) :
  Calls Tryz.prog 227 #[.slice (some ⟨g, 0, none⟩) l.length l.length, .int .i64 (i : Int), .slice (some ⟨xb, 0, none⟩) 1 1] w (EPost B 96 5 PRule.C (.slice (some ⟨g, 0, none⟩) l.length l.length) (insAt l i x) w) := by
 obtain ⟨g', cap', cur, e, hB, hC, hc1, hc2, hsz, hfl⟩ := h.blk (by omega)
 injection e with e1 _ e3
 injection e1 with e1
 injection e1 with e1 _ _
 subst e1
 clear e3
 obtain ⟨i0, z0, hi0, hz0, hk0, hs0, hb0⟩ := zBs Tryz.infoIPRule
 have hgl : g < w.heap.size := zBp hC
 have hxl : xb < w.heap.size := zBp hx
 have hQl : ((l.drop i).flatMap fun x => (PRule.C x).toList).length = (l.length - i) * 5 := by rw [zBv (cells := PRule.C) (n := 5) (fun _ => rfl), List.length_drop]
 have hPl : ((l.take i).flatMap fun x => (PRule.C x).toList).length = i * 5 := by rw [zBv (cells := PRule.C) (n := 5) (fun _ => rfl), List.length_take, Nat.min_eq_left (Nat.le_of_lt hi)]
 have hik : i + (l.length + 1 - i) = l.length + 1 := by omega
 have hkk : (l.length : Int) + 1 - (i : Int) = ((l.length + 1 - i : Nat) : Int) := by omega
 have hold : (Builtin.firstCells i0.size i (.slice (some ⟨g, 0, none⟩) i l.length)).run Tryz.prog w.drew = .ok ((l.take i).flatMap fun x => (PRule.C x).toList).toArray w.drew := by
  rw [hs0]
  refine run_firstCells_some w.drew 5 i ⟨g, 0, none⟩ i l.length _ hPl (fun j v hj => ?_)
  rw [Addr.add_lit]
  have := zBz (w := w.drew) (T := 96) hC hfl 0 (i * 5) j v
  refine this ?_
  rw [List.drop_zero, zFp (cells := PRule.C) (n := 5) (fun _ => rfl)]
  exact hj
 obtain ⟨G, hG⟩ : ∃ G, G = grownCap w (l.length + 1) l.length 96 := ⟨_, rfl⟩
 have hGn : l.length + 1 ≤ G := by rw [hG]; exact grownCap_ge w _ _ _
 have hGm : G ≤ maxLen := by rw [hG]; exact grownCap_le_maxLen w (l.length + 1) l.length 96 (by unfold maxLen; omega)
 obtain ⟨ROW, hROW⟩ : ∃ ROW : Array Value, ROW = ((l.take i).flatMap fun x => (PRule.C x).toList).toArray ++ Builtin.zeroCells z0.cells (l.length + 1 - i) ++ Builtin.zeroCells z0.cells (G - (l.length + 1)) := ⟨_, rfl⟩
 have hRs : ROW.size = G * 5 := by
  rw [hROW, Array.size_append, Array.size_append, zCd, zCd, hk0, List.size_toArray, hPl]
  omega
 have hRt : ROW.toList.take (i * 5) = (l.take i).flatMap fun x => (PRule.C x).toList := by
  rw [hROW, Array.toList_append, Array.toList_append, List.append_assoc, List.take_append_of_le_length (by rw [hPl]; exact Nat.le_refl _), List.take_of_length_le (by rw [hPl]; exact Nat.le_refl _)]
 have hrz : ∀ ty, (Builtin.append_ #[92, 3] ty #[.slice (some ⟨g, 0, none⟩) i l.length, .int .i64 ((l.length : Int) + 1 - (i : Int))]).run Tryz.prog w = .ok (.slice (some ⟨w.heap.size, 0, none⟩) (l.length + 1) G) (w.drew.alloc (.cells ROW 96)) := fun ty => by
  have h := Lib.run_append_grow_zeros w 92 3 ty 96 i0 _ .i64 .i64 Tryz.underlying92 Tryz.underlying3 hi0 hz0 (some ⟨g, 0, none⟩) i l.length _ hold (l.length + 1 - i) (by omega) (by omega) (by omega) (by omega) (by rw [hb0]; omega) (by rw [hb0, hik]; exact growslice_fits_wide (by omega) (by omega))
  rw [hik, ← hG, ← hROW] at h
  rw [hkk]
  exact h
 obtain ⟨W1, hW1⟩ : ∃ W1, W1 = w.drew.alloc (.cells ROW 96) := ⟨_, rfl⟩
 have hC1 : HasC 96 w.heap.size ROW W1 := by rw [hW1]; exact HasC.new w.drew _ _
 have hb1 : Below w.heap.size w W1 := by
  have h := (Below.refl w.heap.size w.drew).alloc (Nat.le_refl _) (.cells ROW 96)
  rw [hW1]
  exact ⟨h.os, h.tape, h.output, h.size, h.block⟩
 rw [← hW1] at hrz
 have hx1 : HasC 96 xb (PRule.C x) W1 := hx.keep hb1
 have hg1 : HasC 96 g cur W1 := hC.keep hb1
 have hcpA : ∀ ty dc, (Builtin.copy_ #[92, 92] ty #[.slice (some ⟨w.heap.size, i * 5, none⟩) (l.length + 1 - i) dc, .slice (some ⟨xb, 0, none⟩) 1 1]).run Tryz.prog W1 = .ok (goInt (1 : Nat)) (W1.setCells w.heap.size (i * 5) (PRule.C x).toList) := fun ty dc => by
  have := zAy (P := Tryz.prog) W1 92 92 ty 96 5 w.heap.size (i * 5) (l.length + 1 - i) dc ⟨xb, 0, none⟩ 1 1 (PRule.C x).toList Tryz.underlying92 Tryz.szIPRule (by rw [show Nat.min 1 (l.length + 1 - i) = 1 from by simp only [Nat.min_def]; split <;> omega]; rfl)
   (fun j v hj => by rw [Addr.add_lit, Nat.zero_add, hx1.cell]; simpa using hj)
   (fun j hj => hC1.isSome (by rw [hRs]; have : j < 5 := hj; omega)) (fun j _ => hC1.frz _) (fun u hu => Array.all_eq_true_iff_forall_mem.1 (PRule.one x) u (by simpa using hu))
  rw [this]
  congr 2
  simp only [Nat.min_def]; split <;> omega
 obtain ⟨W2, hW2⟩ : ∃ W2, W2 = W1.setCells w.heap.size (i * 5) (PRule.C x).toList := ⟨_, rfl⟩
 have hC2 : HasC 96 w.heap.size (zAt ROW (i * 5) (PRule.C x).toList) W2 := by rw [hW2]; exact hC1.set _ _
 have hG2 : W1.grownBy W2 (some w.heap.size) := by rw [hW2]; exact zAi _ _ _ _
 have hg2 : HasC 96 g cur W2 := hg1.grown hG2 (fun e => by injection e with e; omega)
 have hb2 : Below w.heap.size w W2 := hb1.trans (zAs hG2 (Nat.le_refl _) hb1.size)
 rw [← hW2] at hcpA
 have hcpB : ∀ ty dc sc, (Builtin.copy_ #[92, 92] ty #[.slice (some ⟨w.heap.size, (i + 1) * 5, none⟩) (l.length - i) dc, .slice (some ⟨g, i * 5, none⟩) (l.length - i) sc]).run Tryz.prog W2.drew = .ok (goInt (l.length - i : Nat)) (W2.drew.setCells w.heap.size ((i + 1) * 5) ((l.drop i).flatMap fun x => (PRule.C x).toList)) := fun ty dc sc => by
  have := zAy (P := Tryz.prog) W2.drew 92 92 ty 96 5 w.heap.size ((i + 1) * 5) (l.length - i) dc ⟨g, i * 5, none⟩ (l.length - i) sc ((l.drop i).flatMap fun x => (PRule.C x).toList) Tryz.underlying92 Tryz.szIPRule (by rw [hQl]; congr 1; simp only [Nat.min_def]; split <;> omega)
   (fun j v hj => by
    rw [Addr.add_lit]
    refine zBz (w := W2.drew) hg2 hfl (i * 5) ((l.length - i) * 5) j v ?_
    rw [zCh (cells := PRule.C) (n := 5) (fun _ => rfl), List.take_of_length_le (by rw [hQl]; exact Nat.le_refl _)]
    exact hj)
   (fun j hj => HasC.isSome (w := W2.drew) hC2 (by rw [zAj, hRs]; rw [hQl] at hj; omega)) (fun j _ => HasC.frz (w := W2.drew) hC2 _) (zDj PRule.one _)
  rw [this]
  congr 2
  simp only [Nat.min_def]; split <;> omega
 have hC3 : HasC 96 w.heap.size (zAt (zAt ROW (i * 5) (PRule.C x).toList) ((i + 1) * 5) ((l.drop i).flatMap fun x => (PRule.C x).toList)) (W2.drew.setCells w.heap.size ((i + 1) * 5) ((l.drop i).flatMap fun x => (PRule.C x).toList)) := HasC.set (w := W2.drew) hC2 _ _
 have hG3 : W2.grownBy (W2.drew.setCells w.heap.size ((i + 1) * 5) ((l.drop i).flatMap fun x => (PRule.C x).toList)) (some w.heap.size) := zBn (zAi _ _ _ _)
 have hb3 := hb2.trans (zAs hG3 (Nat.le_refl _) hb2.size)
 have hfin := ins_new (cells := PRule.C) (n := 5) (fun _ => rfl) (x := x) hi (by rw [hRs]; exact Nat.mul_le_mul_right _ hGn) hRt
 have hlen : (insAt l i x).length = l.length + 1 := zBt x
 have HE : Hid (EPost B 96 5 PRule.C (.slice (some ⟨g, 0, none⟩) l.length l.length) (insAt l i x) w (.returned (.slice (some ⟨w.heap.size, 0, none⟩) (l.length + 1) G)) (W2.drew.setCells w.heap.size ((i + 1) * 5) ((l.drop i).flatMap fun x => (PRule.C x).toList))) := hid ⟨_, rfl, OwnE.of_blk (g := w.heap.size) (cap := G) (by rw [hlen]) (by omega) hC3 (by rw [hlen]; exact hGn) hGm (by rw [zAj, zAj]; exact hRs) (by rw [hlen]; exact hfin) (fun _ => rfl), .inr (.inr ⟨w.heap.size, rfl, Nat.le_refl _⟩), zDk (Nat.le_refl _) hb3 _⟩
 have HRZ := hid hrz
 have HCPA := hid hcpA
 have HCPB := hid hcpB
 simp only [maxLen] at hGm
 clear hrz hcpA hcpB hC3 hG3 hb3 hfin hlen hW2 hW1 hC2 hG2 hg2 hb2 hC1 hb1 hx1 hg1 hRt hRs hROW hold hkk hik hPl hQl h hx hC hfl hG hi0 hz0 hk0 hs0 hb0 hc1 hc2 hsz
 have hz2 : ¬ ((i : Int) = (l.length : Int)) := by omega
 have hw1 : IntKind.i64.wrap ((i : Int) + 1) = (i : Int) + 1 := by rw [IntKind.wrap_i64]; omega
 have hb1 : (0 : Int) ≤ (i : Int) + 1 := by omega
 have htn : ((i : Int) + 1).toNat = i + 1 := by omega
 have hb4 : ¬ (l.length = i) := by omega
 have hin : i ≤ l.length := by omega
 have hb5 : (i : Int) ≤ (l.length : Int) := by omega
 have hGi : ¬ (G = i) := by omega
 have hGim : ¬ (G = i + 1) := by omega
 have hb6 : (i : Int) ≤ (l.length : Int) + 1 := by omega
 go_enter Tryz.func227, Tryz.ntmps227
 go_wp2_with (first | (at_builtin; refine Lib.wpList_append_run _ rfl _ _ _ _ rfl _ _ rfl rfl _ _ (HRZ.out _) ?_) | (refine zDf rfl _ _ 92 92 rfl _ _ rfl rfl (HCPA.out _ _) ?_))
 go_region_law (refine zEf rfl _ _ 92 92 rfl (.slice (some ⟨w.heap.size, (i + 1) * 5, none⟩) (l.length - i) (G - (i + 1))) (.slice (some ⟨g, i * 5, none⟩) (l.length - i) (l.length - i)) (by simp [Act.eval, Act.put]) (by simp [Act.eval, Act.put]) (HCPB.out 3 (G - (i + 1)) (l.length - i)) ?_)
 go_wp2_with fail
 go_ret
 exact HE.out
theorem insPRule_any (B : Nat) (v : Value) (l : List PRule) (x : PRule) (i xb : Nat) (w : World) (h : OwnE w B 96 5 PRule.C v l) (hx : HasC 96 xb (PRule.C x) w) (hne : v.ownBlock ≠ some xb) (hi : i ≤ l.length) (hB : B ≤ w.heap.size) (hl : l.length ≤ 1000000000) :
  Calls Tryz.prog 227 #[v, .int .i64 (i : Int), .slice (some ⟨xb, 0, none⟩) 1 1] w (EPost B 96 5 PRule.C v (insAt l i x) w) := by
 rcases Nat.lt_or_eq_of_le hi with hlt | rfl
 ·obtain ⟨g, cap, cur, rfl, -, -, hc1, -⟩ := h.blk (by omega)
  rcases Nat.lt_or_eq_of_le hc1 with hc | rfl
  ·exact insRoomPRule B g cap l x i xb w h hx (fun e => hne (by rw [e]; rfl)) hlt hc hl
  ·exact insGrowPRule B g l x i xb w h hx hlt hl
 ·have e : insAt l l.length x = l ++ [x] := by unfold insAt; simp
  rw [e]
  exact insEndPRule B v l x xb w h hx hB hl
theorem Tryz.infoICl : (Tryz.prog.info? 101).map (fun i => (i.zero.map (fun z => z.cells.size), i.size, i.bytes)) = some (some 7, 7, 64) := by kernel_rfl
theorem Tryz.szICl : (Tryz.prog.info? 101).map (·.size) = some 7 := by kernel_rfl
theorem Tryz.szofICl (w : World) : (Go.sizeOf 101).run Tryz.prog w = .ok 7 w := by kernel_rfl
theorem overlapsCl (xb g o lb cb : Nat) (w : World) (cs ds : Array Value) (hx : HasC 101 xb cs w) (hg : HasC 101 g ds w) (hne : xb ≠ g) (hd : ds.size ≠ 0) :
  (callFunc 249 #[.slice (some ⟨xb, 0, none⟩) 1 1, .slice (some ⟨g, o, none⟩) lb cb]).run Tryz.prog w = .ok (.value (.bool false)) w := by
 have hsx : w.shape? xb = some (101, cs.size) := by simp [World.shape?, show w.heap[xb]? = _ from hx]
 have hsg : w.shape? g = some (101, ds.size) := by simp [World.shape?, show w.heap[g]? = _ from hg]
 rw [run_callFunc_extern (P := Tryz.prog) (fn := Tryz.f249) (by kernel_rfl) (by kernel_rfl) (by kernel_rfl) (by kernel_rfl) (e := Extern.SlicesOverlaps.overlaps #[97, 97] #[4]) (by kernel_rfl),
  Lib.run_overlaps_apart w 97 4 101 Tryz.underlying97 7 Tryz.szofICl ⟨xb, 0, none⟩ ⟨g, o, none⟩ 1 1 lb cb hne 101 101 cs.size ds.size hsx hsg hd (hx.frz _) (hx.frz _)]
 rfl
theorem insEndCl (B : Nat) (v : Value) (l : List Cl) (x : Cl) (xb : Nat) (w : World) (h : OwnE w B 101 7 Cl.C v l) (hx : HasC 101 xb (Cl.C x) w) (hB : B ≤ w.heap.size) (hl : l.length ≤ 1000000000) :
  Calls Tryz.prog 228 #[v, .int .i64 (l.length : Int), .slice (some ⟨xb, 0, none⟩) 1 1] w (EPost B 101 7 Cl.C v (l ++ [x]) w) := by
 obtain ⟨i0, z0, hi0, hz0, hk0, hs0, hb0⟩ := zBs Tryz.infoICl
 have Hi0 := hid hi0
 have Hz0 := hid hz0
 have Hk0 := hid hk0
 have Hs0 := hid hs0
 have Hb0 := hid hb0
 have H1 := hid (fun u hu => Array.all_eq_true_iff_forall_mem.1 (Cl.one x) u (by simpa using hu) : ∀ u ∈ (Cl.C x).toList, u.oneCell' = true)
 have HX := hid (fun j u hj => by rw [Addr.add_lit, Nat.zero_add, hx.cell]; simpa using hj : ∀ j u, (Cl.C x).toList[j]? = some u → w.cell? ((⟨xb, 0, none⟩ : Addr).add j) = some u)
 have H : Hid (w.ownsRow B 101 7 v l.length (l.flatMap fun x => (Cl.C x).toList)) := hid h
 have hform : (v = .slice none 0 0 ∧ l.length = 0) ∨ ∃ g cap, v = .slice (some ⟨g, 0, none⟩) l.length cap ∧ l.length ≤ cap ∧ cap ≤ maxLen := by
  rcases h.2 with h2 | ⟨g, cap, cur, h2, -, -, h4, h5, -⟩
  ·exact .inl h2
  ·exact .inr ⟨g, cap, h2, h4, h5⟩
 clear hi0 hz0 hk0 hs0 hb0 hx h
 have hend : ∀ v' w', w'.ownsRow B 101 7 v' (l.length + 1) ((l.flatMap fun x => (Cl.C x).toList) ++ (Cl.C x).toList) → w.grownBy w' v.ownBlock → (v'.ownBlock = v.ownBlock ∨ v'.ownBlock = some w.heap.size) → EPost B 101 7 Cl.C v (l ++ [x]) w (.returned v') w' :=
  fun v' w' ho hg hat => ⟨v', rfl, OwnE.snoc ho, hat.elim .inl (fun q => .inr (.inr ⟨_, q, Nat.le_refl _⟩)), hg⟩
 have HE := hid hend
 clear hend
 rcases hform with ⟨rfl, h0⟩ | ⟨g, cap, rfl, hc1, hc2⟩
 ·have H0 := hid h0
  have q0 : (l.length : Int) = 0 := by omega
  rw [q0]
  rw [h0] at H HE
  clear q0 h0
  go_enter Tryz.func228, Tryz.ntmps228
  go_wp2_with (at_builtin; refine wpList_append_own_at _ rfl _ _ 97 rfl B 101 i0 _ 7 64 Tryz.underlying97 Hi0.out Hz0.out Hs0.out Hb0.out Hk0.out (by decide) _ 0 _ rfl H.out ⟨xb, 0, none⟩ 1 1 (Cl.C x).toList rfl rfl HX.out H1.out (by decide) (by decide) hB ?_; intro v5 w5 ho5 hg5 _ hat5)
  go_ret
  exact HE.out v5 w5 ho5 hg5 hat5
 ·simp only [maxLen] at hc2
  rcases Nat.lt_or_eq_of_le hc1 with hlt | heq
  ·have hne : ¬ cap = l.length := by omega
   go_enter Tryz.func228, Tryz.ntmps228
   go_wp2_with (at_builtin; refine wpList_append_own_at _ rfl _ _ 97 rfl B 101 i0 _ 7 64 Tryz.underlying97 Hi0.out Hz0.out Hs0.out Hb0.out Hk0.out (by decide) _ l.length _ rfl H.out ⟨xb, 0, none⟩ 1 1 (Cl.C x).toList rfl rfl HX.out H1.out (by simp only [maxLen]; omega) (by omega) hB ?_; intro v5 w5 ho5 hg5 _ hat5)
   go_ret
   exact HE.out v5 w5 ho5 hg5 hat5
  ·subst heq
   go_enter Tryz.func228, Tryz.ntmps228
   go_wp2_with (at_builtin; refine wpList_append_own_at _ rfl _ _ 97 rfl B 101 i0 _ 7 64 Tryz.underlying97 Hi0.out Hz0.out Hs0.out Hb0.out Hk0.out (by decide) _ l.length _ rfl H.out ⟨xb, 0, none⟩ 1 1 (Cl.C x).toList rfl rfl HX.out H1.out (by simp only [maxLen]; omega) (by omega) hB ?_; intro v5 w5 ho5 hg5 _ hat5)
   go_ret
   exact HE.out v5 w5 ho5 hg5 hat5
theorem insRoomCl (B : Nat) (g cap : Nat) (l : List Cl) (x : Cl) (i xb : Nat) (w : World) (h : OwnE w B 101 7 Cl.C (.slice (some ⟨g, 0, none⟩) l.length cap) l) (hx : HasC 101 xb (Cl.C x) w) (hne : g ≠ xb) (hi : i < l.length) (hr : l.length + 1 ≤ cap) (hl : l.length ≤ 1000000000) :
  Calls Tryz.prog 228 #[.slice (some ⟨g, 0, none⟩) l.length cap, .int .i64 (i : Int), .slice (some ⟨xb, 0, none⟩) 1 1] w (EPost B 101 7 Cl.C (.slice (some ⟨g, 0, none⟩) l.length cap) (insAt l i x) w) := by
 obtain ⟨g', cap', cur, e, hB, hC, hc1, hc2, hsz, hfl⟩ := h.blk (by omega)
 injection e with e1 _ e3
 injection e1 with e1
 injection e1 with e1 _ _
 subst e1 e3
 simp only [maxLen] at hc2
 have hcs : (l.length + 1) * 7 ≤ cur.size := by rw [hsz]; exact Nat.mul_le_mul_right _ hr
 have hQl : ((l.drop i).flatMap fun x => (Cl.C x).toList).length = (l.length - i) * 7 := by rw [zBv (cells := Cl.C) (n := 7) (fun _ => rfl), List.length_drop]
 have hov := fun lb cb => overlapsCl xb g ((i + 1) * 7) lb cb w _ _ hx hC (Ne.symm hne) (by omega)
 have hcp1 : ∀ ty dc sc, (Builtin.copy_ #[97, 97] ty #[.slice (some ⟨g, (i + 1) * 7, none⟩) (l.length - i) dc, .slice (some ⟨g, i * 7, none⟩) (l.length + 1 - i) sc]).run Tryz.prog w.drew = .ok (goInt (l.length - i : Nat)) (w.drew.setCells g ((i + 1) * 7) ((l.drop i).flatMap fun x => (Cl.C x).toList)) := fun ty dc sc => by
  have := zAy (P := Tryz.prog) w.drew 97 97 ty 101 7 g ((i + 1) * 7) (l.length - i) dc ⟨g, i * 7, none⟩ (l.length + 1 - i) sc ((l.drop i).flatMap fun x => (Cl.C x).toList) Tryz.underlying97 Tryz.szICl (by rw [hQl]; congr 1; simp only [Nat.min_def]; split <;> omega)
   (fun j v hj => by
    rw [Addr.add_lit]
    refine zBz (w := w.drew) hC hfl (i * 7) ((l.length - i) * 7) j v ?_
    rw [zCh (cells := Cl.C) (n := 7) (fun _ => rfl), List.take_of_length_le (by rw [hQl]; exact Nat.le_refl _)]
    exact hj)
   (fun j hj => HasC.isSome (w := w.drew) hC (by rw [hQl] at hj; omega)) (fun j _ => HasC.frz (w := w.drew) hC _) (zDj Cl.one _)
  rw [this]
  congr 2
  simp only [Nat.min_def]; split <;> omega
 obtain ⟨W1, hW1⟩ : ∃ W1, W1 = w.drew.setCells g ((i + 1) * 7) ((l.drop i).flatMap fun x => (Cl.C x).toList) := ⟨_, rfl⟩
 have hC1 : HasC 101 g (zAt cur ((i + 1) * 7) ((l.drop i).flatMap fun x => (Cl.C x).toList)) W1 := by rw [hW1]; exact HasC.set (w := w.drew) hC _ _
 have hG1 : w.grownBy W1 (some g) := by rw [hW1]; exact zBn (zAi _ _ _ _)
 have hx1 : HasC 101 xb (Cl.C x) W1 := hx.grown hG1 (fun e => hne (by injection e with e; exact e.symm))
 have hcp2 : ∀ ty dc, (Builtin.copy_ #[97, 97] ty #[.slice (some ⟨g, i * 7, none⟩) (l.length + 1 - i) dc, .slice (some ⟨xb, 0, none⟩) 1 1]).run Tryz.prog W1 = .ok (goInt (1 : Nat)) (W1.setCells g (i * 7) (Cl.C x).toList) := fun ty dc => by
  have := zAy (P := Tryz.prog) W1 97 97 ty 101 7 g (i * 7) (l.length + 1 - i) dc ⟨xb, 0, none⟩ 1 1 (Cl.C x).toList Tryz.underlying97 Tryz.szICl (by rw [show Nat.min 1 (l.length + 1 - i) = 1 from by simp only [Nat.min_def]; split <;> omega]; rfl)
   (fun j v hj => by rw [Addr.add_lit, Nat.zero_add, hx1.cell]; simpa using hj)
   (fun j hj => hC1.isSome (by rw [zAj]; have : j < 7 := hj; omega)) (fun j _ => hC1.frz _) (fun u hu => Array.all_eq_true_iff_forall_mem.1 (Cl.one x) u (by simpa using hu))
  rw [this]
  congr 2
  simp only [Nat.min_def]; split <;> omega
 have hC2 : HasC 101 g (zAt (zAt cur ((i + 1) * 7) ((l.drop i).flatMap fun x => (Cl.C x).toList)) (i * 7) (Cl.C x).toList) (W1.setCells g (i * 7) (Cl.C x).toList) := hC1.set _ _
 have hfin := zJb (cells := Cl.C) (fun _ => rfl) (x := x) hi hcs hfl
 have hlen : (insAt l i x).length = l.length + 1 := zBt x
 have HE : Hid (EPost B 101 7 Cl.C (.slice (some ⟨g, 0, none⟩) l.length cap) (insAt l i x) w (.returned (.slice (some ⟨g, 0, none⟩) (l.length + 1) cap)) (W1.setCells g (i * 7) (Cl.C x).toList)) := hid ⟨_, rfl, OwnE.of_blk (g := g) (cap := cap) (by rw [hlen]) hB hC2 (by rw [hlen]; exact hr) (by simp only [maxLen]; omega) (by rw [zAj, zAj]; exact hsz) (by rw [hlen]; exact hfin) (fun _ => rfl), .inl rfl, hG1.trans (zAi _ _ _ _)⟩
 rw [← hW1] at hcp1
 have HCP1 := hid hcp1
 have HCP2 := hid hcp2
 clear hcp1 hcp2 hC2 hfin hlen hW1 hC1 hG1 hx1 h hx hC hfl hQl
 have hz2 : ¬ ((i : Int) = (l.length : Int)) := by omega
 have hw1 : IntKind.i64.wrap ((i : Int) + 1) = (i : Int) + 1 := by rw [IntKind.wrap_i64]; omega
 have hb1 : (0 : Int) ≤ (i : Int) + 1 := by omega
 have htn : ((i : Int) + 1).toNat = i + 1 := by omega
 have hb2 : ¬ (cap = i + 1) := by omega
 have hb3 : (i : Int) ≤ (l.length : Int) + 1 := by omega
 have hb4 : ¬ (cap = i) := by omega
 have hin : i ≤ l.length := by omega
 have hb5 : (i : Int) ≤ (l.length : Int) := by omega
 have hb6 : (i : Int) + 1 ≤ (l.length : Int) + 1 := by omega
 go_enter Tryz.func228, Tryz.ntmps228
 go_wp2_with (simp only [hov])
 go_region_law (refine zEf rfl _ _ 97 97 rfl (.slice (some ⟨g, (i + 1) * 7, none⟩) (l.length - i) (cap - (i + 1))) (.slice (some ⟨g, i * 7, none⟩) (l.length + 1 - i) (cap - i)) (by simp [Act.eval, Act.put]) (by simp [Act.eval, Act.put]) (HCP1.out 3 (cap - (i + 1)) (cap - i)) ?_)
 go_wp2_with (refine zDf rfl _ _ 97 97 rfl _ _ rfl rfl (HCP2.out _ _) ?_)
 go_ret
 exact HE.out
theorem insGrowCl (B : Nat) (g : Nat) (l : List Cl) (x : Cl) (i xb : Nat) (w : World) (h : OwnE w B 101 7 Cl.C (.slice (some ⟨g, 0, none⟩) l.length l.length) l) (hx : HasC 101 xb (Cl.C x) w) (hi : i < l.length) (hl : l.length ≤ 1000000000) :
  Calls Tryz.prog 228 #[.slice (some ⟨g, 0, none⟩) l.length l.length, .int .i64 (i : Int), .slice (some ⟨xb, 0, none⟩) 1 1] w (EPost B 101 7 Cl.C (.slice (some ⟨g, 0, none⟩) l.length l.length) (insAt l i x) w) := by
 obtain ⟨g', cap', cur, e, hB, hC, hc1, hc2, hsz, hfl⟩ := h.blk (by omega)
 injection e with e1 _ e3
 injection e1 with e1
 injection e1 with e1 _ _
 subst e1
 clear e3
 obtain ⟨i0, z0, hi0, hz0, hk0, hs0, hb0⟩ := zBs Tryz.infoICl
 have hgl : g < w.heap.size := zBp hC
 have hxl : xb < w.heap.size := zBp hx
 have hQl : ((l.drop i).flatMap fun x => (Cl.C x).toList).length = (l.length - i) * 7 := by rw [zBv (cells := Cl.C) (n := 7) (fun _ => rfl), List.length_drop]
 have hPl : ((l.take i).flatMap fun x => (Cl.C x).toList).length = i * 7 := by rw [zBv (cells := Cl.C) (n := 7) (fun _ => rfl), List.length_take, Nat.min_eq_left (Nat.le_of_lt hi)]
 have hik : i + (l.length + 1 - i) = l.length + 1 := by omega
 have hkk : (l.length : Int) + 1 - (i : Int) = ((l.length + 1 - i : Nat) : Int) := by omega
 have hold : (Builtin.firstCells i0.size i (.slice (some ⟨g, 0, none⟩) i l.length)).run Tryz.prog w.drew = .ok ((l.take i).flatMap fun x => (Cl.C x).toList).toArray w.drew := by
  rw [hs0]
  refine run_firstCells_some w.drew 7 i ⟨g, 0, none⟩ i l.length _ hPl (fun j v hj => ?_)
  rw [Addr.add_lit]
  have := zBz (w := w.drew) (T := 101) hC hfl 0 (i * 7) j v
  refine this ?_
  rw [List.drop_zero, zFp (cells := Cl.C) (n := 7) (fun _ => rfl)]
  exact hj
 obtain ⟨G, hG⟩ : ∃ G, G = grownCap w (l.length + 1) l.length 101 := ⟨_, rfl⟩
 have hGn : l.length + 1 ≤ G := by rw [hG]; exact grownCap_ge w _ _ _
 have hGm : G ≤ maxLen := by rw [hG]; exact grownCap_le_maxLen w (l.length + 1) l.length 101 (by unfold maxLen; omega)
 obtain ⟨ROW, hROW⟩ : ∃ ROW : Array Value, ROW = ((l.take i).flatMap fun x => (Cl.C x).toList).toArray ++ Builtin.zeroCells z0.cells (l.length + 1 - i) ++ Builtin.zeroCells z0.cells (G - (l.length + 1)) := ⟨_, rfl⟩
 have hRs : ROW.size = G * 7 := by
  rw [hROW, Array.size_append, Array.size_append, zCd, zCd, hk0, List.size_toArray, hPl]
  omega
 have hRt : ROW.toList.take (i * 7) = (l.take i).flatMap fun x => (Cl.C x).toList := by
  rw [hROW, Array.toList_append, Array.toList_append, List.append_assoc, List.take_append_of_le_length (by rw [hPl]; exact Nat.le_refl _), List.take_of_length_le (by rw [hPl]; exact Nat.le_refl _)]
 have hrz : ∀ ty, (Builtin.append_ #[97, 3] ty #[.slice (some ⟨g, 0, none⟩) i l.length, .int .i64 ((l.length : Int) + 1 - (i : Int))]).run Tryz.prog w = .ok (.slice (some ⟨w.heap.size, 0, none⟩) (l.length + 1) G) (w.drew.alloc (.cells ROW 101)) := fun ty => by
  have h := Lib.run_append_grow_zeros w 97 3 ty 101 i0 _ .i64 .i64 Tryz.underlying97 Tryz.underlying3 hi0 hz0 (some ⟨g, 0, none⟩) i l.length _ hold (l.length + 1 - i) (by omega) (by omega) (by omega) (by omega) (by rw [hb0]; omega) (by rw [hb0, hik]; exact growslice_fits_wide (by omega) (by omega))
  rw [hik, ← hG, ← hROW] at h
  rw [hkk]
  exact h
 obtain ⟨W1, hW1⟩ : ∃ W1, W1 = w.drew.alloc (.cells ROW 101) := ⟨_, rfl⟩
 have hC1 : HasC 101 w.heap.size ROW W1 := by rw [hW1]; exact HasC.new w.drew _ _
 have hb1 : Below w.heap.size w W1 := by
  have h := (Below.refl w.heap.size w.drew).alloc (Nat.le_refl _) (.cells ROW 101)
  rw [hW1]
  exact ⟨h.os, h.tape, h.output, h.size, h.block⟩
 rw [← hW1] at hrz
 have hx1 : HasC 101 xb (Cl.C x) W1 := hx.keep hb1
 have hg1 : HasC 101 g cur W1 := hC.keep hb1
 have hcpA : ∀ ty dc, (Builtin.copy_ #[97, 97] ty #[.slice (some ⟨w.heap.size, i * 7, none⟩) (l.length + 1 - i) dc, .slice (some ⟨xb, 0, none⟩) 1 1]).run Tryz.prog W1 = .ok (goInt (1 : Nat)) (W1.setCells w.heap.size (i * 7) (Cl.C x).toList) := fun ty dc => by
  have := zAy (P := Tryz.prog) W1 97 97 ty 101 7 w.heap.size (i * 7) (l.length + 1 - i) dc ⟨xb, 0, none⟩ 1 1 (Cl.C x).toList Tryz.underlying97 Tryz.szICl (by rw [show Nat.min 1 (l.length + 1 - i) = 1 from by simp only [Nat.min_def]; split <;> omega]; rfl)
   (fun j v hj => by rw [Addr.add_lit, Nat.zero_add, hx1.cell]; simpa using hj)
   (fun j hj => hC1.isSome (by rw [hRs]; have : j < 7 := hj; omega)) (fun j _ => hC1.frz _) (fun u hu => Array.all_eq_true_iff_forall_mem.1 (Cl.one x) u (by simpa using hu))
  rw [this]
  congr 2
  simp only [Nat.min_def]; split <;> omega
 obtain ⟨W2, hW2⟩ : ∃ W2, W2 = W1.setCells w.heap.size (i * 7) (Cl.C x).toList := ⟨_, rfl⟩
 have hC2 : HasC 101 w.heap.size (zAt ROW (i * 7) (Cl.C x).toList) W2 := by rw [hW2]; exact hC1.set _ _
 have hG2 : W1.grownBy W2 (some w.heap.size) := by rw [hW2]; exact zAi _ _ _ _
 have hg2 : HasC 101 g cur W2 := hg1.grown hG2 (fun e => by injection e with e; omega)
 have hb2 : Below w.heap.size w W2 := hb1.trans (zAs hG2 (Nat.le_refl _) hb1.size)
 rw [← hW2] at hcpA
 have hcpB : ∀ ty dc sc, (Builtin.copy_ #[97, 97] ty #[.slice (some ⟨w.heap.size, (i + 1) * 7, none⟩) (l.length - i) dc, .slice (some ⟨g, i * 7, none⟩) (l.length - i) sc]).run Tryz.prog W2.drew = .ok (goInt (l.length - i : Nat)) (W2.drew.setCells w.heap.size ((i + 1) * 7) ((l.drop i).flatMap fun x => (Cl.C x).toList)) := fun ty dc sc => by
  have := zAy (P := Tryz.prog) W2.drew 97 97 ty 101 7 w.heap.size ((i + 1) * 7) (l.length - i) dc ⟨g, i * 7, none⟩ (l.length - i) sc ((l.drop i).flatMap fun x => (Cl.C x).toList) Tryz.underlying97 Tryz.szICl (by rw [hQl]; congr 1; simp only [Nat.min_def]; split <;> omega)
   (fun j v hj => by
    rw [Addr.add_lit]
    refine zBz (w := W2.drew) hg2 hfl (i * 7) ((l.length - i) * 7) j v ?_
    rw [zCh (cells := Cl.C) (n := 7) (fun _ => rfl), List.take_of_length_le (by rw [hQl]; exact Nat.le_refl _)]
    exact hj)
   (fun j hj => HasC.isSome (w := W2.drew) hC2 (by rw [zAj, hRs]; rw [hQl] at hj; omega)) (fun j _ => HasC.frz (w := W2.drew) hC2 _) (zDj Cl.one _)
  rw [this]
  congr 2
  simp only [Nat.min_def]; split <;> omega
 have hC3 : HasC 101 w.heap.size (zAt (zAt ROW (i * 7) (Cl.C x).toList) ((i + 1) * 7) ((l.drop i).flatMap fun x => (Cl.C x).toList)) (W2.drew.setCells w.heap.size ((i + 1) * 7) ((l.drop i).flatMap fun x => (Cl.C x).toList)) := HasC.set (w := W2.drew) hC2 _ _
 have hG3 : W2.grownBy (W2.drew.setCells w.heap.size ((i + 1) * 7) ((l.drop i).flatMap fun x => (Cl.C x).toList)) (some w.heap.size) := zBn (zAi _ _ _ _)
 have hb3 := hb2.trans (zAs hG3 (Nat.le_refl _) hb2.size)
 have hfin := ins_new (cells := Cl.C) (n := 7) (fun _ => rfl) (x := x) hi (by rw [hRs]; exact Nat.mul_le_mul_right _ hGn) hRt
 have hlen : (insAt l i x).length = l.length + 1 := zBt x
 have HE : Hid (EPost B 101 7 Cl.C (.slice (some ⟨g, 0, none⟩) l.length l.length) (insAt l i x) w (.returned (.slice (some ⟨w.heap.size, 0, none⟩) (l.length + 1) G)) (W2.drew.setCells w.heap.size ((i + 1) * 7) ((l.drop i).flatMap fun x => (Cl.C x).toList))) := hid ⟨_, rfl, OwnE.of_blk (g := w.heap.size) (cap := G) (by rw [hlen]) (by omega) hC3 (by rw [hlen]; exact hGn) hGm (by rw [zAj, zAj]; exact hRs) (by rw [hlen]; exact hfin) (fun _ => rfl), .inr (.inr ⟨w.heap.size, rfl, Nat.le_refl _⟩), zDk (Nat.le_refl _) hb3 _⟩
 have HRZ := hid hrz
 have HCPA := hid hcpA
 have HCPB := hid hcpB
 simp only [maxLen] at hGm
 clear hrz hcpA hcpB hC3 hG3 hb3 hfin hlen hW2 hW1 hC2 hG2 hg2 hb2 hC1 hb1 hx1 hg1 hRt hRs hROW hold hkk hik hPl hQl h hx hC hfl hG hi0 hz0 hk0 hs0 hb0 hc1 hc2 hsz
 have hz2 : ¬ ((i : Int) = (l.length : Int)) := by omega
 have hw1 : IntKind.i64.wrap ((i : Int) + 1) = (i : Int) + 1 := by rw [IntKind.wrap_i64]; omega
 have hb1 : (0 : Int) ≤ (i : Int) + 1 := by omega
 have htn : ((i : Int) + 1).toNat = i + 1 := by omega
 have hb4 : ¬ (l.length = i) := by omega
 have hin : i ≤ l.length := by omega
 have hb5 : (i : Int) ≤ (l.length : Int) := by omega
 have hGi : ¬ (G = i) := by omega
 have hGim : ¬ (G = i + 1) := by omega
 have hb6 : (i : Int) ≤ (l.length : Int) + 1 := by omega
 go_enter Tryz.func228, Tryz.ntmps228
 go_wp2_with (first | (at_builtin; refine Lib.wpList_append_run _ rfl _ _ _ _ rfl _ _ rfl rfl _ _ (HRZ.out _) ?_) | (refine zDf rfl _ _ 97 97 rfl _ _ rfl rfl (HCPA.out _ _) ?_))
 go_region_law (refine zEf rfl _ _ 97 97 rfl (.slice (some ⟨w.heap.size, (i + 1) * 7, none⟩) (l.length - i) (G - (i + 1))) (.slice (some ⟨g, i * 7, none⟩) (l.length - i) (l.length - i)) (by simp [Act.eval, Act.put]) (by simp [Act.eval, Act.put]) (HCPB.out 3 (G - (i + 1)) (l.length - i)) ?_)
 go_wp2_with fail
 go_ret
 exact HE.out
theorem insCl_any (B : Nat) (v : Value) (l : List Cl) (x : Cl) (i xb : Nat) (w : World) (h : OwnE w B 101 7 Cl.C v l) (hx : HasC 101 xb (Cl.C x) w) (hne : v.ownBlock ≠ some xb) (hi : i ≤ l.length) (hB : B ≤ w.heap.size) (hl : l.length ≤ 1000000000) :
  Calls Tryz.prog 228 #[v, .int .i64 (i : Int), .slice (some ⟨xb, 0, none⟩) 1 1] w (EPost B 101 7 Cl.C v (insAt l i x) w) := by
 rcases Nat.lt_or_eq_of_le hi with hlt | rfl
 ·obtain ⟨g, cap, cur, rfl, -, -, hc1, -⟩ := h.blk (by omega)
  rcases Nat.lt_or_eq_of_le hc1 with hc | rfl
  ·exact insRoomCl B g cap l x i xb w h hx (fun e => hne (by rw [e]; rfl)) hlt hc hl
  ·exact insGrowCl B g l x i xb w h hx hlt hl
 ·have e : insAt l l.length x = l ++ [x] := by unfold insAt; simp
  rw [e]
  exact insEndCl B v l x xb w h hx hB hl
theorem Tryz.infoIRu : (Tryz.prog.info? 110).map (fun i => (i.zero.map (fun z => z.cells.size), i.size, i.bytes)) = some (some 10, 10, 64) := by kernel_rfl
theorem Tryz.szIRu : (Tryz.prog.info? 110).map (·.size) = some 10 := by kernel_rfl
theorem Tryz.szofIRu (w : World) : (Go.sizeOf 110).run Tryz.prog w = .ok 10 w := by kernel_rfl
theorem overlapsRu (xb g o lb cb : Nat) (w : World) (cs ds : Array Value) (hx : HasC 110 xb cs w) (hg : HasC 110 g ds w) (hne : xb ≠ g) (hd : ds.size ≠ 0) :
  (callFunc 251 #[.slice (some ⟨xb, 0, none⟩) 1 1, .slice (some ⟨g, o, none⟩) lb cb]).run Tryz.prog w = .ok (.value (.bool false)) w := by
 have hsx : w.shape? xb = some (110, cs.size) := by simp [World.shape?, show w.heap[xb]? = _ from hx]
 have hsg : w.shape? g = some (110, ds.size) := by simp [World.shape?, show w.heap[g]? = _ from hg]
 rw [run_callFunc_extern (P := Tryz.prog) (fn := Tryz.f251) (by kernel_rfl) (by kernel_rfl) (by kernel_rfl) (by kernel_rfl) (e := Extern.SlicesOverlaps.overlaps #[102, 102] #[4]) (by kernel_rfl),
  Lib.run_overlaps_apart w 102 4 110 Tryz.underlying102 10 Tryz.szofIRu ⟨xb, 0, none⟩ ⟨g, o, none⟩ 1 1 lb cb hne 110 110 cs.size ds.size hsx hsg hd (hx.frz _) (hx.frz _)]
 rfl
theorem insEndRu (B : Nat) (v : Value) (l : List Ru) (x : Ru) (xb : Nat) (w : World) (h : OwnE w B 110 10 Ru.C v l) (hx : HasC 110 xb (Ru.C x) w) (hB : B ≤ w.heap.size) (hl : l.length ≤ 1000000000) :
  Calls Tryz.prog 231 #[v, .int .i64 (l.length : Int), .slice (some ⟨xb, 0, none⟩) 1 1] w (EPost B 110 10 Ru.C v (l ++ [x]) w) := by
 obtain ⟨i0, z0, hi0, hz0, hk0, hs0, hb0⟩ := zBs Tryz.infoIRu
 have Hi0 := hid hi0
 have Hz0 := hid hz0
 have Hk0 := hid hk0
 have Hs0 := hid hs0
 have Hb0 := hid hb0
 have H1 := hid (fun u hu => Array.all_eq_true_iff_forall_mem.1 (Ru.one x) u (by simpa using hu) : ∀ u ∈ (Ru.C x).toList, u.oneCell' = true)
 have HX := hid (fun j u hj => by rw [Addr.add_lit, Nat.zero_add, hx.cell]; simpa using hj : ∀ j u, (Ru.C x).toList[j]? = some u → w.cell? ((⟨xb, 0, none⟩ : Addr).add j) = some u)
 have H : Hid (w.ownsRow B 110 10 v l.length (l.flatMap fun x => (Ru.C x).toList)) := hid h
 have hform : (v = .slice none 0 0 ∧ l.length = 0) ∨ ∃ g cap, v = .slice (some ⟨g, 0, none⟩) l.length cap ∧ l.length ≤ cap ∧ cap ≤ maxLen := by
  rcases h.2 with h2 | ⟨g, cap, cur, h2, -, -, h4, h5, -⟩
  ·exact .inl h2
  ·exact .inr ⟨g, cap, h2, h4, h5⟩
 clear hi0 hz0 hk0 hs0 hb0 hx h
 have hend : ∀ v' w', w'.ownsRow B 110 10 v' (l.length + 1) ((l.flatMap fun x => (Ru.C x).toList) ++ (Ru.C x).toList) → w.grownBy w' v.ownBlock → (v'.ownBlock = v.ownBlock ∨ v'.ownBlock = some w.heap.size) → EPost B 110 10 Ru.C v (l ++ [x]) w (.returned v') w' :=
  fun v' w' ho hg hat => ⟨v', rfl, OwnE.snoc ho, hat.elim .inl (fun q => .inr (.inr ⟨_, q, Nat.le_refl _⟩)), hg⟩
 have HE := hid hend
 clear hend
 rcases hform with ⟨rfl, h0⟩ | ⟨g, cap, rfl, hc1, hc2⟩
 ·have H0 := hid h0
  have q0 : (l.length : Int) = 0 := by omega
  rw [q0]
  rw [h0] at H HE
  clear q0 h0
  go_enter Tryz.func231, Tryz.ntmps231
  go_wp2_with (at_builtin; refine wpList_append_own_at _ rfl _ _ 102 rfl B 110 i0 _ 10 64 Tryz.underlying102 Hi0.out Hz0.out Hs0.out Hb0.out Hk0.out (by decide) _ 0 _ rfl H.out ⟨xb, 0, none⟩ 1 1 (Ru.C x).toList rfl rfl HX.out H1.out (by decide) (by decide) hB ?_; intro v5 w5 ho5 hg5 _ hat5)
  go_ret
  exact HE.out v5 w5 ho5 hg5 hat5
 ·simp only [maxLen] at hc2
  rcases Nat.lt_or_eq_of_le hc1 with hlt | heq
  ·have hne : ¬ cap = l.length := by omega
   go_enter Tryz.func231, Tryz.ntmps231
   go_wp2_with (at_builtin; refine wpList_append_own_at _ rfl _ _ 102 rfl B 110 i0 _ 10 64 Tryz.underlying102 Hi0.out Hz0.out Hs0.out Hb0.out Hk0.out (by decide) _ l.length _ rfl H.out ⟨xb, 0, none⟩ 1 1 (Ru.C x).toList rfl rfl HX.out H1.out (by simp only [maxLen]; omega) (by omega) hB ?_; intro v5 w5 ho5 hg5 _ hat5)
   go_ret
   exact HE.out v5 w5 ho5 hg5 hat5
  ·subst heq
   go_enter Tryz.func231, Tryz.ntmps231
   go_wp2_with (at_builtin; refine wpList_append_own_at _ rfl _ _ 102 rfl B 110 i0 _ 10 64 Tryz.underlying102 Hi0.out Hz0.out Hs0.out Hb0.out Hk0.out (by decide) _ l.length _ rfl H.out ⟨xb, 0, none⟩ 1 1 (Ru.C x).toList rfl rfl HX.out H1.out (by simp only [maxLen]; omega) (by omega) hB ?_; intro v5 w5 ho5 hg5 _ hat5)
   go_ret
   exact HE.out v5 w5 ho5 hg5 hat5
theorem insRoomRu (B : Nat) (g cap : Nat) (l : List Ru) (x : Ru) (i xb : Nat) (w : World) (h : OwnE w B 110 10 Ru.C (.slice (some ⟨g, 0, none⟩) l.length cap) l) (hx : HasC 110 xb (Ru.C x) w) (hne : g ≠ xb) (hi : i < l.length) (hr : l.length + 1 ≤ cap) (hl : l.length ≤ 1000000000) :
  Calls Tryz.prog 231 #[.slice (some ⟨g, 0, none⟩) l.length cap, .int .i64 (i : Int), .slice (some ⟨xb, 0, none⟩) 1 1] w (EPost B 110 10 Ru.C (.slice (some ⟨g, 0, none⟩) l.length cap) (insAt l i x) w) := by
 obtain ⟨g', cap', cur, e, hB, hC, hc1, hc2, hsz, hfl⟩ := h.blk (by omega)
 injection e with e1 _ e3
 injection e1 with e1
 injection e1 with e1 _ _
 subst e1 e3
 simp only [maxLen] at hc2
 have hcs : (l.length + 1) * 10 ≤ cur.size := by rw [hsz]; exact Nat.mul_le_mul_right _ hr
 have hQl : ((l.drop i).flatMap fun x => (Ru.C x).toList).length = (l.length - i) * 10 := by rw [zBv (cells := Ru.C) (n := 10) (fun _ => rfl), List.length_drop]
 have hov := fun lb cb => overlapsRu xb g ((i + 1) * 10) lb cb w _ _ hx hC (Ne.symm hne) (by omega)
 have hcp1 : ∀ ty dc sc, (Builtin.copy_ #[102, 102] ty #[.slice (some ⟨g, (i + 1) * 10, none⟩) (l.length - i) dc, .slice (some ⟨g, i * 10, none⟩) (l.length + 1 - i) sc]).run Tryz.prog w.drew = .ok (goInt (l.length - i : Nat)) (w.drew.setCells g ((i + 1) * 10) ((l.drop i).flatMap fun x => (Ru.C x).toList)) := fun ty dc sc => by
  have := zAy (P := Tryz.prog) w.drew 102 102 ty 110 10 g ((i + 1) * 10) (l.length - i) dc ⟨g, i * 10, none⟩ (l.length + 1 - i) sc ((l.drop i).flatMap fun x => (Ru.C x).toList) Tryz.underlying102 Tryz.szIRu (by rw [hQl]; congr 1; simp only [Nat.min_def]; split <;> omega)
   (fun j v hj => by
    rw [Addr.add_lit]
    refine zBz (w := w.drew) hC hfl (i * 10) ((l.length - i) * 10) j v ?_
    rw [zCh (cells := Ru.C) (n := 10) (fun _ => rfl), List.take_of_length_le (by rw [hQl]; exact Nat.le_refl _)]
    exact hj)
   (fun j hj => HasC.isSome (w := w.drew) hC (by rw [hQl] at hj; omega)) (fun j _ => HasC.frz (w := w.drew) hC _) (zDj Ru.one _)
  rw [this]
  congr 2
  simp only [Nat.min_def]; split <;> omega
 obtain ⟨W1, hW1⟩ : ∃ W1, W1 = w.drew.setCells g ((i + 1) * 10) ((l.drop i).flatMap fun x => (Ru.C x).toList) := ⟨_, rfl⟩
 have hC1 : HasC 110 g (zAt cur ((i + 1) * 10) ((l.drop i).flatMap fun x => (Ru.C x).toList)) W1 := by rw [hW1]; exact HasC.set (w := w.drew) hC _ _
 have hG1 : w.grownBy W1 (some g) := by rw [hW1]; exact zBn (zAi _ _ _ _)
 have hx1 : HasC 110 xb (Ru.C x) W1 := hx.grown hG1 (fun e => hne (by injection e with e; exact e.symm))
 have hcp2 : ∀ ty dc, (Builtin.copy_ #[102, 102] ty #[.slice (some ⟨g, i * 10, none⟩) (l.length + 1 - i) dc, .slice (some ⟨xb, 0, none⟩) 1 1]).run Tryz.prog W1 = .ok (goInt (1 : Nat)) (W1.setCells g (i * 10) (Ru.C x).toList) := fun ty dc => by
  have := zAy (P := Tryz.prog) W1 102 102 ty 110 10 g (i * 10) (l.length + 1 - i) dc ⟨xb, 0, none⟩ 1 1 (Ru.C x).toList Tryz.underlying102 Tryz.szIRu (by rw [show Nat.min 1 (l.length + 1 - i) = 1 from by simp only [Nat.min_def]; split <;> omega]; rfl)
   (fun j v hj => by rw [Addr.add_lit, Nat.zero_add, hx1.cell]; simpa using hj)
   (fun j hj => hC1.isSome (by rw [zAj]; have : j < 10 := hj; omega)) (fun j _ => hC1.frz _) (fun u hu => Array.all_eq_true_iff_forall_mem.1 (Ru.one x) u (by simpa using hu))
  rw [this]
  congr 2
  simp only [Nat.min_def]; split <;> omega
 have hC2 : HasC 110 g (zAt (zAt cur ((i + 1) * 10) ((l.drop i).flatMap fun x => (Ru.C x).toList)) (i * 10) (Ru.C x).toList) (W1.setCells g (i * 10) (Ru.C x).toList) := hC1.set _ _
 have hfin := zJb (cells := Ru.C) (fun _ => rfl) (x := x) hi hcs hfl
 have hlen : (insAt l i x).length = l.length + 1 := zBt x
 have HE : Hid (EPost B 110 10 Ru.C (.slice (some ⟨g, 0, none⟩) l.length cap) (insAt l i x) w (.returned (.slice (some ⟨g, 0, none⟩) (l.length + 1) cap)) (W1.setCells g (i * 10) (Ru.C x).toList)) := hid ⟨_, rfl, OwnE.of_blk (g := g) (cap := cap) (by rw [hlen]) hB hC2 (by rw [hlen]; exact hr) (by simp only [maxLen]; omega) (by rw [zAj, zAj]; exact hsz) (by rw [hlen]; exact hfin) (fun _ => rfl), .inl rfl, hG1.trans (zAi _ _ _ _)⟩
 rw [← hW1] at hcp1
 have HCP1 := hid hcp1
 have HCP2 := hid hcp2
 clear hcp1 hcp2 hC2 hfin hlen hW1 hC1 hG1 hx1 h hx hC hfl hQl
 have hz2 : ¬ ((i : Int) = (l.length : Int)) := by omega
 have hw1 : IntKind.i64.wrap ((i : Int) + 1) = (i : Int) + 1 := by rw [IntKind.wrap_i64]; omega
 have hb1 : (0 : Int) ≤ (i : Int) + 1 := by omega
 have htn : ((i : Int) + 1).toNat = i + 1 := by omega
 have hb2 : ¬ (cap = i + 1) := by omega
 have hb3 : (i : Int) ≤ (l.length : Int) + 1 := by omega
 have hb4 : ¬ (cap = i) := by omega
 have hin : i ≤ l.length := by omega
 have hb5 : (i : Int) ≤ (l.length : Int) := by omega
 have hb6 : (i : Int) + 1 ≤ (l.length : Int) + 1 := by omega
 go_enter Tryz.func231, Tryz.ntmps231
 go_wp2_with (simp only [hov])
 go_region_law (refine zEf rfl _ _ 102 102 rfl (.slice (some ⟨g, (i + 1) * 10, none⟩) (l.length - i) (cap - (i + 1))) (.slice (some ⟨g, i * 10, none⟩) (l.length + 1 - i) (cap - i)) (by simp [Act.eval, Act.put]) (by simp [Act.eval, Act.put]) (HCP1.out 3 (cap - (i + 1)) (cap - i)) ?_)
 go_wp2_with (refine zDf rfl _ _ 102 102 rfl _ _ rfl rfl (HCP2.out _ _) ?_)
 go_ret
 exact HE.out
theorem insGrowRu (B : Nat) (g : Nat) (l : List Ru) (x : Ru) (i xb : Nat) (w : World) (h : OwnE w B 110 10 Ru.C (.slice (some ⟨g, 0, none⟩) l.length l.length) l) (hx : HasC 110 xb (Ru.C x) w) (hi : i < l.length) (hl : l.length ≤ 1000000000) :
  Calls Tryz.prog 231 #[.slice (some ⟨g, 0, none⟩) l.length l.length, .int .i64 (i : Int), .slice (some ⟨xb, 0, none⟩) 1 1] w (EPost B 110 10 Ru.C (.slice (some ⟨g, 0, none⟩) l.length l.length) (insAt l i x) w) := by
 obtain ⟨g', cap', cur, e, hB, hC, hc1, hc2, hsz, hfl⟩ := h.blk (by omega)
 injection e with e1 _ e3
 injection e1 with e1
 injection e1 with e1 _ _
 subst e1
 clear e3
 obtain ⟨i0, z0, hi0, hz0, hk0, hs0, hb0⟩ := zBs Tryz.infoIRu
 have hgl : g < w.heap.size := zBp hC
 have hxl : xb < w.heap.size := zBp hx
 have hQl : ((l.drop i).flatMap fun x => (Ru.C x).toList).length = (l.length - i) * 10 := by rw [zBv (cells := Ru.C) (n := 10) (fun _ => rfl), List.length_drop]
 have hPl : ((l.take i).flatMap fun x => (Ru.C x).toList).length = i * 10 := by rw [zBv (cells := Ru.C) (n := 10) (fun _ => rfl), List.length_take, Nat.min_eq_left (Nat.le_of_lt hi)]
 have hik : i + (l.length + 1 - i) = l.length + 1 := by omega
 have hkk : (l.length : Int) + 1 - (i : Int) = ((l.length + 1 - i : Nat) : Int) := by omega
 have hold : (Builtin.firstCells i0.size i (.slice (some ⟨g, 0, none⟩) i l.length)).run Tryz.prog w.drew = .ok ((l.take i).flatMap fun x => (Ru.C x).toList).toArray w.drew := by
  rw [hs0]
  refine run_firstCells_some w.drew 10 i ⟨g, 0, none⟩ i l.length _ hPl (fun j v hj => ?_)
  rw [Addr.add_lit]
  have := zBz (w := w.drew) (T := 110) hC hfl 0 (i * 10) j v
  refine this ?_
  rw [List.drop_zero, zFp (cells := Ru.C) (n := 10) (fun _ => rfl)]
  exact hj
 obtain ⟨G, hG⟩ : ∃ G, G = grownCap w (l.length + 1) l.length 110 := ⟨_, rfl⟩
 have hGn : l.length + 1 ≤ G := by rw [hG]; exact grownCap_ge w _ _ _
 have hGm : G ≤ maxLen := by rw [hG]; exact grownCap_le_maxLen w (l.length + 1) l.length 110 (by unfold maxLen; omega)
 obtain ⟨ROW, hROW⟩ : ∃ ROW : Array Value, ROW = ((l.take i).flatMap fun x => (Ru.C x).toList).toArray ++ Builtin.zeroCells z0.cells (l.length + 1 - i) ++ Builtin.zeroCells z0.cells (G - (l.length + 1)) := ⟨_, rfl⟩
 have hRs : ROW.size = G * 10 := by
  rw [hROW, Array.size_append, Array.size_append, zCd, zCd, hk0, List.size_toArray, hPl]
  omega
 have hRt : ROW.toList.take (i * 10) = (l.take i).flatMap fun x => (Ru.C x).toList := by
  rw [hROW, Array.toList_append, Array.toList_append, List.append_assoc, List.take_append_of_le_length (by rw [hPl]; exact Nat.le_refl _), List.take_of_length_le (by rw [hPl]; exact Nat.le_refl _)]
 have hrz : ∀ ty, (Builtin.append_ #[102, 3] ty #[.slice (some ⟨g, 0, none⟩) i l.length, .int .i64 ((l.length : Int) + 1 - (i : Int))]).run Tryz.prog w = .ok (.slice (some ⟨w.heap.size, 0, none⟩) (l.length + 1) G) (w.drew.alloc (.cells ROW 110)) := fun ty => by
  have h := Lib.run_append_grow_zeros w 102 3 ty 110 i0 _ .i64 .i64 Tryz.underlying102 Tryz.underlying3 hi0 hz0 (some ⟨g, 0, none⟩) i l.length _ hold (l.length + 1 - i) (by omega) (by omega) (by omega) (by omega) (by rw [hb0]; omega) (by rw [hb0, hik]; exact growslice_fits_wide (by omega) (by omega))
  rw [hik, ← hG, ← hROW] at h
  rw [hkk]
  exact h
 obtain ⟨W1, hW1⟩ : ∃ W1, W1 = w.drew.alloc (.cells ROW 110) := ⟨_, rfl⟩
 have hC1 : HasC 110 w.heap.size ROW W1 := by rw [hW1]; exact HasC.new w.drew _ _
 have hb1 : Below w.heap.size w W1 := by
  have h := (Below.refl w.heap.size w.drew).alloc (Nat.le_refl _) (.cells ROW 110)
  rw [hW1]
  exact ⟨h.os, h.tape, h.output, h.size, h.block⟩
 rw [← hW1] at hrz
 have hx1 : HasC 110 xb (Ru.C x) W1 := hx.keep hb1
 have hg1 : HasC 110 g cur W1 := hC.keep hb1
 have hcpA : ∀ ty dc, (Builtin.copy_ #[102, 102] ty #[.slice (some ⟨w.heap.size, i * 10, none⟩) (l.length + 1 - i) dc, .slice (some ⟨xb, 0, none⟩) 1 1]).run Tryz.prog W1 = .ok (goInt (1 : Nat)) (W1.setCells w.heap.size (i * 10) (Ru.C x).toList) := fun ty dc => by
  have := zAy (P := Tryz.prog) W1 102 102 ty 110 10 w.heap.size (i * 10) (l.length + 1 - i) dc ⟨xb, 0, none⟩ 1 1 (Ru.C x).toList Tryz.underlying102 Tryz.szIRu (by rw [show Nat.min 1 (l.length + 1 - i) = 1 from by simp only [Nat.min_def]; split <;> omega]; rfl)
   (fun j v hj => by rw [Addr.add_lit, Nat.zero_add, hx1.cell]; simpa using hj)
   (fun j hj => hC1.isSome (by rw [hRs]; have : j < 10 := hj; omega)) (fun j _ => hC1.frz _) (fun u hu => Array.all_eq_true_iff_forall_mem.1 (Ru.one x) u (by simpa using hu))
  rw [this]
  congr 2
  simp only [Nat.min_def]; split <;> omega
 obtain ⟨W2, hW2⟩ : ∃ W2, W2 = W1.setCells w.heap.size (i * 10) (Ru.C x).toList := ⟨_, rfl⟩
 have hC2 : HasC 110 w.heap.size (zAt ROW (i * 10) (Ru.C x).toList) W2 := by rw [hW2]; exact hC1.set _ _
 have hG2 : W1.grownBy W2 (some w.heap.size) := by rw [hW2]; exact zAi _ _ _ _
 have hg2 : HasC 110 g cur W2 := hg1.grown hG2 (fun e => by injection e with e; omega)
 have hb2 : Below w.heap.size w W2 := hb1.trans (zAs hG2 (Nat.le_refl _) hb1.size)
 rw [← hW2] at hcpA
 have hcpB : ∀ ty dc sc, (Builtin.copy_ #[102, 102] ty #[.slice (some ⟨w.heap.size, (i + 1) * 10, none⟩) (l.length - i) dc, .slice (some ⟨g, i * 10, none⟩) (l.length - i) sc]).run Tryz.prog W2.drew = .ok (goInt (l.length - i : Nat)) (W2.drew.setCells w.heap.size ((i + 1) * 10) ((l.drop i).flatMap fun x => (Ru.C x).toList)) := fun ty dc sc => by
  have := zAy (P := Tryz.prog) W2.drew 102 102 ty 110 10 w.heap.size ((i + 1) * 10) (l.length - i) dc ⟨g, i * 10, none⟩ (l.length - i) sc ((l.drop i).flatMap fun x => (Ru.C x).toList) Tryz.underlying102 Tryz.szIRu (by rw [hQl]; congr 1; simp only [Nat.min_def]; split <;> omega)
   (fun j v hj => by
    rw [Addr.add_lit]
    refine zBz (w := W2.drew) hg2 hfl (i * 10) ((l.length - i) * 10) j v ?_
    rw [zCh (cells := Ru.C) (n := 10) (fun _ => rfl), List.take_of_length_le (by rw [hQl]; exact Nat.le_refl _)]
    exact hj)
   (fun j hj => HasC.isSome (w := W2.drew) hC2 (by rw [zAj, hRs]; rw [hQl] at hj; omega)) (fun j _ => HasC.frz (w := W2.drew) hC2 _) (zDj Ru.one _)
  rw [this]
  congr 2
  simp only [Nat.min_def]; split <;> omega
 have hC3 : HasC 110 w.heap.size (zAt (zAt ROW (i * 10) (Ru.C x).toList) ((i + 1) * 10) ((l.drop i).flatMap fun x => (Ru.C x).toList)) (W2.drew.setCells w.heap.size ((i + 1) * 10) ((l.drop i).flatMap fun x => (Ru.C x).toList)) := HasC.set (w := W2.drew) hC2 _ _
 have hG3 : W2.grownBy (W2.drew.setCells w.heap.size ((i + 1) * 10) ((l.drop i).flatMap fun x => (Ru.C x).toList)) (some w.heap.size) := zBn (zAi _ _ _ _)
 have hb3 := hb2.trans (zAs hG3 (Nat.le_refl _) hb2.size)
 have hfin := ins_new (cells := Ru.C) (n := 10) (fun _ => rfl) (x := x) hi (by rw [hRs]; exact Nat.mul_le_mul_right _ hGn) hRt
 have hlen : (insAt l i x).length = l.length + 1 := zBt x
 have HE : Hid (EPost B 110 10 Ru.C (.slice (some ⟨g, 0, none⟩) l.length l.length) (insAt l i x) w (.returned (.slice (some ⟨w.heap.size, 0, none⟩) (l.length + 1) G)) (W2.drew.setCells w.heap.size ((i + 1) * 10) ((l.drop i).flatMap fun x => (Ru.C x).toList))) := hid ⟨_, rfl, OwnE.of_blk (g := w.heap.size) (cap := G) (by rw [hlen]) (by omega) hC3 (by rw [hlen]; exact hGn) hGm (by rw [zAj, zAj]; exact hRs) (by rw [hlen]; exact hfin) (fun _ => rfl), .inr (.inr ⟨w.heap.size, rfl, Nat.le_refl _⟩), zDk (Nat.le_refl _) hb3 _⟩
 have HRZ := hid hrz
 have HCPA := hid hcpA
 have HCPB := hid hcpB
 simp only [maxLen] at hGm
 clear hrz hcpA hcpB hC3 hG3 hb3 hfin hlen hW2 hW1 hC2 hG2 hg2 hb2 hC1 hb1 hx1 hg1 hRt hRs hROW hold hkk hik hPl hQl h hx hC hfl hG hi0 hz0 hk0 hs0 hb0 hc1 hc2 hsz
 have hz2 : ¬ ((i : Int) = (l.length : Int)) := by omega
 have hw1 : IntKind.i64.wrap ((i : Int) + 1) = (i : Int) + 1 := by rw [IntKind.wrap_i64]; omega
 have hb1 : (0 : Int) ≤ (i : Int) + 1 := by omega
 have htn : ((i : Int) + 1).toNat = i + 1 := by omega
 have hb4 : ¬ (l.length = i) := by omega
 have hin : i ≤ l.length := by omega
 have hb5 : (i : Int) ≤ (l.length : Int) := by omega
 have hGi : ¬ (G = i) := by omega
 have hGim : ¬ (G = i + 1) := by omega
 have hb6 : (i : Int) ≤ (l.length : Int) + 1 := by omega
 go_enter Tryz.func231, Tryz.ntmps231
 go_wp2_with (first | (at_builtin; refine Lib.wpList_append_run _ rfl _ _ _ _ rfl _ _ rfl rfl _ _ (HRZ.out _) ?_) | (refine zDf rfl _ _ 102 102 rfl _ _ rfl rfl (HCPA.out _ _) ?_))
 go_region_law (refine zEf rfl _ _ 102 102 rfl (.slice (some ⟨w.heap.size, (i + 1) * 10, none⟩) (l.length - i) (G - (i + 1))) (.slice (some ⟨g, i * 10, none⟩) (l.length - i) (l.length - i)) (by simp [Act.eval, Act.put]) (by simp [Act.eval, Act.put]) (HCPB.out 3 (G - (i + 1)) (l.length - i)) ?_)
 go_wp2_with fail
 go_ret
 exact HE.out
theorem insRu_any (B : Nat) (v : Value) (l : List Ru) (x : Ru) (i xb : Nat) (w : World) (h : OwnE w B 110 10 Ru.C v l) (hx : HasC 110 xb (Ru.C x) w) (hne : v.ownBlock ≠ some xb) (hi : i ≤ l.length) (hB : B ≤ w.heap.size) (hl : l.length ≤ 1000000000) :
  Calls Tryz.prog 231 #[v, .int .i64 (i : Int), .slice (some ⟨xb, 0, none⟩) 1 1] w (EPost B 110 10 Ru.C v (insAt l i x) w) := by
 rcases Nat.lt_or_eq_of_le hi with hlt | rfl
 ·obtain ⟨g, cap, cur, rfl, -, -, hc1, -⟩ := h.blk (by omega)
  rcases Nat.lt_or_eq_of_le hc1 with hc | rfl
  ·exact insRoomRu B g cap l x i xb w h hx (fun e => hne (by rw [e]; rfl)) hlt hc hl
  ·exact insGrowRu B g l x i xb w h hx hlt hl
 ·have e : insAt l l.length x = l ++ [x] := by unfold insAt; simp
  rw [e]
  exact insEndRu B v l x xb w h hx hB hl
theorem Tryz.infoIInt : (Tryz.prog.info? 3).map (fun i => (i.zero.map (fun z => z.cells.size), i.size, i.bytes)) = some (some 1, 1, 8) := by kernel_rfl
theorem Tryz.szIInt : (Tryz.prog.info? 3).map (·.size) = some 1 := by kernel_rfl
theorem Tryz.szofIInt (w : World) : (Go.sizeOf 3).run Tryz.prog w = .ok 1 w := by kernel_rfl
theorem overlapsInt (xb g o lb cb : Nat) (w : World) (cs ds : Array Value) (hx : HasC 3 xb cs w) (hg : HasC 3 g ds w) (hne : xb ≠ g) (hd : ds.size ≠ 0) :
  (callFunc 245 #[.slice (some ⟨xb, 0, none⟩) 1 1, .slice (some ⟨g, o, none⟩) lb cb]).run Tryz.prog w = .ok (.value (.bool false)) w := by
 have hsx : w.shape? xb = some (3, cs.size) := by simp [World.shape?, show w.heap[xb]? = _ from hx]
 have hsg : w.shape? g = some (3, ds.size) := by simp [World.shape?, show w.heap[g]? = _ from hg]
 rw [run_callFunc_extern (P := Tryz.prog) (fn := Tryz.f245) (by kernel_rfl) (by kernel_rfl) (by kernel_rfl) (by kernel_rfl) (e := Extern.SlicesOverlaps.overlaps #[53, 53] #[4]) (by kernel_rfl),
  Lib.run_overlaps_apart w 53 4 3 Tryz.underlying53 1 Tryz.szofIInt ⟨xb, 0, none⟩ ⟨g, o, none⟩ 1 1 lb cb hne 3 3 cs.size ds.size hsx hsg hd (hx.frz _) (hx.frz _)]
 rfl
theorem insEndInt (B : Nat) (v : Value) (l : List Int) (x : Int) (xb : Nat) (w : World) (h : OwnE w B 3 1 intC v l) (hx : HasC 3 xb (intC x) w) (hB : B ≤ w.heap.size) (hl : l.length ≤ 1000000000) :
  Calls Tryz.prog 226 #[v, .int .i64 (l.length : Int), .slice (some ⟨xb, 0, none⟩) 1 1] w (EPost B 3 1 intC v (l ++ [x]) w) := by
 obtain ⟨i0, z0, hi0, hz0, hk0, hs0, hb0⟩ := zBs Tryz.infoIInt
 have Hi0 := hid hi0
 have Hz0 := hid hz0
 have Hk0 := hid hk0
 have Hs0 := hid hs0
 have Hb0 := hid hb0
 have H1 := hid (fun u hu => Array.all_eq_true_iff_forall_mem.1 (zHu x) u (by simpa using hu) : ∀ u ∈ (intC x).toList, u.oneCell' = true)
 have HX := hid (fun j u hj => by rw [Addr.add_lit, Nat.zero_add, hx.cell]; simpa using hj : ∀ j u, (intC x).toList[j]? = some u → w.cell? ((⟨xb, 0, none⟩ : Addr).add j) = some u)
 have H : Hid (w.ownsRow B 3 1 v l.length (l.flatMap fun x => (intC x).toList)) := hid h
 have hform : (v = .slice none 0 0 ∧ l.length = 0) ∨ ∃ g cap, v = .slice (some ⟨g, 0, none⟩) l.length cap ∧ l.length ≤ cap ∧ cap ≤ maxLen := by
  rcases h.2 with h2 | ⟨g, cap, cur, h2, -, -, h4, h5, -⟩
  ·exact .inl h2
  ·exact .inr ⟨g, cap, h2, h4, h5⟩
 clear hi0 hz0 hk0 hs0 hb0 hx h
 have hend : ∀ v' w', w'.ownsRow B 3 1 v' (l.length + 1) ((l.flatMap fun x => (intC x).toList) ++ (intC x).toList) → w.grownBy w' v.ownBlock → (v'.ownBlock = v.ownBlock ∨ v'.ownBlock = some w.heap.size) → EPost B 3 1 intC v (l ++ [x]) w (.returned v') w' :=
  fun v' w' ho hg hat => ⟨v', rfl, OwnE.snoc ho, hat.elim .inl (fun q => .inr (.inr ⟨_, q, Nat.le_refl _⟩)), hg⟩
 have HE := hid hend
 clear hend
 rcases hform with ⟨rfl, h0⟩ | ⟨g, cap, rfl, hc1, hc2⟩
 ·have H0 := hid h0
  have q0 : (l.length : Int) = 0 := by omega
  rw [q0]
  rw [h0] at H HE
  clear q0 h0
  go_enter Tryz.func226, Tryz.ntmps226
  go_wp2_with (at_builtin; refine wpList_append_own_at _ rfl _ _ 53 rfl B 3 i0 _ 1 8 Tryz.underlying53 Hi0.out Hz0.out Hs0.out Hb0.out Hk0.out (by decide) _ 0 _ rfl H.out ⟨xb, 0, none⟩ 1 1 (intC x).toList rfl rfl HX.out H1.out (by decide) (by decide) hB ?_; intro v5 w5 ho5 hg5 _ hat5)
  go_ret
  exact HE.out v5 w5 ho5 hg5 hat5
 ·simp only [maxLen] at hc2
  rcases Nat.lt_or_eq_of_le hc1 with hlt | heq
  ·have hne : ¬ cap = l.length := by omega
   go_enter Tryz.func226, Tryz.ntmps226
   go_wp2_with (at_builtin; refine wpList_append_own_at _ rfl _ _ 53 rfl B 3 i0 _ 1 8 Tryz.underlying53 Hi0.out Hz0.out Hs0.out Hb0.out Hk0.out (by decide) _ l.length _ rfl H.out ⟨xb, 0, none⟩ 1 1 (intC x).toList rfl rfl HX.out H1.out (by simp only [maxLen]; omega) (by omega) hB ?_; intro v5 w5 ho5 hg5 _ hat5)
   go_ret
   exact HE.out v5 w5 ho5 hg5 hat5
  ·subst heq
   go_enter Tryz.func226, Tryz.ntmps226
   go_wp2_with (at_builtin; refine wpList_append_own_at _ rfl _ _ 53 rfl B 3 i0 _ 1 8 Tryz.underlying53 Hi0.out Hz0.out Hs0.out Hb0.out Hk0.out (by decide) _ l.length _ rfl H.out ⟨xb, 0, none⟩ 1 1 (intC x).toList rfl rfl HX.out H1.out (by simp only [maxLen]; omega) (by omega) hB ?_; intro v5 w5 ho5 hg5 _ hat5)
   go_ret
   exact HE.out v5 w5 ho5 hg5 hat5
theorem insRoomInt (B : Nat) (g cap : Nat) (l : List Int) (x : Int) (i xb : Nat) (w : World) (h : OwnE w B 3 1 intC (.slice (some ⟨g, 0, none⟩) l.length cap) l) (hx : HasC 3 xb (intC x) w) (hne : g ≠ xb) (hi : i < l.length) (hr : l.length + 1 ≤ cap) (hl : l.length ≤ 1000000000) :
  Calls Tryz.prog 226 #[.slice (some ⟨g, 0, none⟩) l.length cap, .int .i64 (i : Int), .slice (some ⟨xb, 0, none⟩) 1 1] w (EPost B 3 1 intC (.slice (some ⟨g, 0, none⟩) l.length cap) (insAt l i x) w) := by
 obtain ⟨g', cap', cur, e, hB, hC, hc1, hc2, hsz, hfl⟩ := h.blk (by omega)
 injection e with e1 _ e3
 injection e1 with e1
 injection e1 with e1 _ _
 subst e1 e3
 simp only [maxLen] at hc2
 have hcs : (l.length + 1) * 1 ≤ cur.size := by rw [hsz]; exact Nat.mul_le_mul_right _ hr
 have hQl : ((l.drop i).flatMap fun x => (intC x).toList).length = (l.length - i) * 1 := by rw [zBv (cells := intC) (n := 1) (fun _ => rfl), List.length_drop]
 have hov := fun lb cb => overlapsInt xb g ((i + 1)) lb cb w _ _ hx hC (Ne.symm hne) (by omega)
 have hcp1 : ∀ ty dc sc, (Builtin.copy_ #[53, 53] ty #[.slice (some ⟨g, (i + 1), none⟩) (l.length - i) dc, .slice (some ⟨g, i, none⟩) (l.length + 1 - i) sc]).run Tryz.prog w.drew = .ok (goInt (l.length - i : Nat)) (w.drew.setCells g ((i + 1)) ((l.drop i).flatMap fun x => (intC x).toList)) := fun ty dc sc => by
  have := zAy (P := Tryz.prog) w.drew 53 53 ty 3 1 g ((i + 1)) (l.length - i) dc ⟨g, i, none⟩ (l.length + 1 - i) sc ((l.drop i).flatMap fun x => (intC x).toList) Tryz.underlying53 Tryz.szIInt (by rw [hQl]; congr 1; simp only [Nat.min_def]; split <;> omega)
   (fun j v hj => by
    rw [Addr.add_lit]
    refine zBz (w := w.drew) hC hfl (i) ((l.length - i) * 1) j v ?_
    rw [show (l.flatMap fun x => (intC x).toList).drop i = ((l.drop i).flatMap fun x => (intC x).toList) from by have hd := zCh (cells := intC) (n := 1) (fun _ => rfl) l i; rw [Nat.mul_one] at hd; exact hd, List.take_of_length_le (by rw [hQl]; exact Nat.le_refl _)]
    exact hj)
   (fun j hj => HasC.isSome (w := w.drew) hC (by rw [hQl] at hj; omega)) (fun j _ => HasC.frz (w := w.drew) hC _) (zDj zHu _)
  rw [this]
  congr 2
  simp only [Nat.min_def]; split <;> omega
 obtain ⟨W1, hW1⟩ : ∃ W1, W1 = w.drew.setCells g ((i + 1)) ((l.drop i).flatMap fun x => (intC x).toList) := ⟨_, rfl⟩
 have hC1 : HasC 3 g (zAt cur ((i + 1)) ((l.drop i).flatMap fun x => (intC x).toList)) W1 := by rw [hW1]; exact HasC.set (w := w.drew) hC _ _
 have hG1 : w.grownBy W1 (some g) := by rw [hW1]; exact zBn (zAi _ _ _ _)
 have hx1 : HasC 3 xb (intC x) W1 := hx.grown hG1 (fun e => hne (by injection e with e; exact e.symm))
 have hcp2 : ∀ ty dc, (Builtin.copy_ #[53, 53] ty #[.slice (some ⟨g, i, none⟩) (l.length + 1 - i) dc, .slice (some ⟨xb, 0, none⟩) 1 1]).run Tryz.prog W1 = .ok (goInt (1 : Nat)) (W1.setCells g (i) (intC x).toList) := fun ty dc => by
  have := zAy (P := Tryz.prog) W1 53 53 ty 3 1 g (i) (l.length + 1 - i) dc ⟨xb, 0, none⟩ 1 1 (intC x).toList Tryz.underlying53 Tryz.szIInt (by rw [show Nat.min 1 (l.length + 1 - i) = 1 from by simp only [Nat.min_def]; split <;> omega]; rfl)
   (fun j v hj => by rw [Addr.add_lit, Nat.zero_add, hx1.cell]; simpa using hj)
   (fun j hj => hC1.isSome (by rw [zAj]; have : j < 1 := hj; omega)) (fun j _ => hC1.frz _) (fun u hu => Array.all_eq_true_iff_forall_mem.1 (zHu x) u (by simpa using hu))
  rw [this]
  congr 2
  simp only [Nat.min_def]; split <;> omega
 have hC2 : HasC 3 g (zAt (zAt cur ((i + 1)) ((l.drop i).flatMap fun x => (intC x).toList)) (i) (intC x).toList) (W1.setCells g (i) (intC x).toList) := hC1.set _ _
 have hfin := zJb (cells := intC) (fun _ => rfl) (x := x) hi hcs hfl
 have hlen : (insAt l i x).length = l.length + 1 := zBt x
 have HE : Hid (EPost B 3 1 intC (.slice (some ⟨g, 0, none⟩) l.length cap) (insAt l i x) w (.returned (.slice (some ⟨g, 0, none⟩) (l.length + 1) cap)) (W1.setCells g (i) (intC x).toList)) := hid ⟨_, rfl, OwnE.of_blk (g := g) (cap := cap) (by rw [hlen]) hB hC2 (by rw [hlen]; exact hr) (by simp only [maxLen]; omega) (by rw [zAj, zAj]; exact hsz) (by rw [hlen]; simp only [Nat.mul_one] at hfin ⊢; exact hfin) (fun _ => rfl), .inl rfl, hG1.trans (zAi _ _ _ _)⟩
 rw [← hW1] at hcp1
 have HCP1 := hid hcp1
 have HCP2 := hid hcp2
 clear hcp1 hcp2 hC2 hfin hlen hW1 hC1 hG1 hx1 h hx hC hfl hQl
 have hz2 : ¬ ((i : Int) = (l.length : Int)) := by omega
 have hw1 : IntKind.i64.wrap ((i : Int) + 1) = (i : Int) + 1 := by rw [IntKind.wrap_i64]; omega
 have hb1 : (0 : Int) ≤ (i : Int) + 1 := by omega
 have htn : ((i : Int) + 1).toNat = i + 1 := by omega
 have hb2 : ¬ (cap = i + 1) := by omega
 have hb3 : (i : Int) ≤ (l.length : Int) + 1 := by omega
 have hb4 : ¬ (cap = i) := by omega
 have hin : i ≤ l.length := by omega
 have hb5 : (i : Int) ≤ (l.length : Int) := by omega
 have hb6 : (i : Int) + 1 ≤ (l.length : Int) + 1 := by omega
 go_enter Tryz.func226, Tryz.ntmps226
 go_wp2_with (simp only [hov])
 go_region_law (refine zEf rfl _ _ 53 53 rfl (.slice (some ⟨g, (i + 1), none⟩) (l.length - i) (cap - (i + 1))) (.slice (some ⟨g, i, none⟩) (l.length + 1 - i) (cap - i)) (by simp [Act.eval, Act.put]) (by simp [Act.eval, Act.put]) (HCP1.out 3 (cap - (i + 1)) (cap - i)) ?_)
 go_wp2_with (refine zDf rfl _ _ 53 53 rfl _ _ rfl rfl (HCP2.out _ _) ?_)
 go_ret
 exact HE.out
theorem insGrowInt (B : Nat) (g : Nat) (l : List Int) (x : Int) (i xb : Nat) (w : World) (h : OwnE w B 3 1 intC (.slice (some ⟨g, 0, none⟩) l.length l.length) l) (hx : HasC 3 xb (intC x) w) (hi : i < l.length) (hl : l.length ≤ 1000000000) :
  Calls Tryz.prog 226 #[.slice (some ⟨g, 0, none⟩) l.length l.length, .int .i64 (i : Int), .slice (some ⟨xb, 0, none⟩) 1 1] w (EPost B 3 1 intC (.slice (some ⟨g, 0, none⟩) l.length l.length) (insAt l i x) w) := by
 obtain ⟨g', cap', cur, e, hB, hC, hc1, hc2, hsz, hfl⟩ := h.blk (by omega)
 injection e with e1 _ e3
 injection e1 with e1
 injection e1 with e1 _ _
 subst e1
 clear e3
 obtain ⟨i0, z0, hi0, hz0, hk0, hs0, hb0⟩ := zBs Tryz.infoIInt
 have hgl : g < w.heap.size := zBp hC
 have hxl : xb < w.heap.size := zBp hx
 have hQl : ((l.drop i).flatMap fun x => (intC x).toList).length = (l.length - i) * 1 := by rw [zBv (cells := intC) (n := 1) (fun _ => rfl), List.length_drop]
 have hPl : ((l.take i).flatMap fun x => (intC x).toList).length = i * 1 := by rw [zBv (cells := intC) (n := 1) (fun _ => rfl), List.length_take, Nat.min_eq_left (Nat.le_of_lt hi)]
 have hik : i + (l.length + 1 - i) = l.length + 1 := by omega
 have hkk : (l.length : Int) + 1 - (i : Int) = ((l.length + 1 - i : Nat) : Int) := by omega
 have hold : (Builtin.firstCells i0.size i (.slice (some ⟨g, 0, none⟩) i l.length)).run Tryz.prog w.drew = .ok ((l.take i).flatMap fun x => (intC x).toList).toArray w.drew := by
  rw [hs0]
  refine run_firstCells_some w.drew 1 i ⟨g, 0, none⟩ i l.length _ hPl (fun j v hj => ?_)
  rw [Addr.add_lit]
  have := zBz (w := w.drew) (T := 3) hC hfl 0 (i * 1) j v
  refine this ?_
  rw [List.drop_zero, zFp (cells := intC) (n := 1) (fun _ => rfl)]
  exact hj
 obtain ⟨G, hG⟩ : ∃ G, G = grownCap w (l.length + 1) l.length 3 := ⟨_, rfl⟩
 have hGn : l.length + 1 ≤ G := by rw [hG]; exact grownCap_ge w _ _ _
 have hGm : G ≤ maxLen := by rw [hG]; exact grownCap_le_maxLen w (l.length + 1) l.length 3 (by unfold maxLen; omega)
 obtain ⟨ROW, hROW⟩ : ∃ ROW : Array Value, ROW = ((l.take i).flatMap fun x => (intC x).toList).toArray ++ Builtin.zeroCells z0.cells (l.length + 1 - i) ++ Builtin.zeroCells z0.cells (G - (l.length + 1)) := ⟨_, rfl⟩
 have hRs : ROW.size = G * 1 := by
  rw [hROW, Array.size_append, Array.size_append, zCd, zCd, hk0, List.size_toArray, hPl]
  omega
 have hRt : ROW.toList.take (i * 1) = (l.take i).flatMap fun x => (intC x).toList := by
  rw [hROW, Array.toList_append, Array.toList_append, List.append_assoc, List.take_append_of_le_length (by rw [hPl]; exact Nat.le_refl _), List.take_of_length_le (by rw [hPl]; exact Nat.le_refl _)]
 have hrz : ∀ ty, (Builtin.append_ #[53, 3] ty #[.slice (some ⟨g, 0, none⟩) i l.length, .int .i64 ((l.length : Int) + 1 - (i : Int))]).run Tryz.prog w = .ok (.slice (some ⟨w.heap.size, 0, none⟩) (l.length + 1) G) (w.drew.alloc (.cells ROW 3)) := fun ty => by
  have h := Lib.run_append_grow_zeros w 53 3 ty 3 i0 _ .i64 .i64 Tryz.underlying53 Tryz.underlying3 hi0 hz0 (some ⟨g, 0, none⟩) i l.length _ hold (l.length + 1 - i) (by omega) (by omega) (by omega) (by omega) (by rw [hb0]; omega) (by rw [hb0, hik]; exact growslice_fits_wide (by omega) (by omega))
  rw [hik, ← hG, ← hROW] at h
  rw [hkk]
  exact h
 obtain ⟨W1, hW1⟩ : ∃ W1, W1 = w.drew.alloc (.cells ROW 3) := ⟨_, rfl⟩
 have hC1 : HasC 3 w.heap.size ROW W1 := by rw [hW1]; exact HasC.new w.drew _ _
 have hb1 : Below w.heap.size w W1 := by
  have h := (Below.refl w.heap.size w.drew).alloc (Nat.le_refl _) (.cells ROW 3)
  rw [hW1]
  exact ⟨h.os, h.tape, h.output, h.size, h.block⟩
 rw [← hW1] at hrz
 have hx1 : HasC 3 xb (intC x) W1 := hx.keep hb1
 have hg1 : HasC 3 g cur W1 := hC.keep hb1
 have hcpA : ∀ ty dc, (Builtin.copy_ #[53, 53] ty #[.slice (some ⟨w.heap.size, i, none⟩) (l.length + 1 - i) dc, .slice (some ⟨xb, 0, none⟩) 1 1]).run Tryz.prog W1 = .ok (goInt (1 : Nat)) (W1.setCells w.heap.size (i) (intC x).toList) := fun ty dc => by
  have := zAy (P := Tryz.prog) W1 53 53 ty 3 1 w.heap.size (i) (l.length + 1 - i) dc ⟨xb, 0, none⟩ 1 1 (intC x).toList Tryz.underlying53 Tryz.szIInt (by rw [show Nat.min 1 (l.length + 1 - i) = 1 from by simp only [Nat.min_def]; split <;> omega]; rfl)
   (fun j v hj => by rw [Addr.add_lit, Nat.zero_add, hx1.cell]; simpa using hj)
   (fun j hj => hC1.isSome (by rw [hRs]; have : j < 1 := hj; omega)) (fun j _ => hC1.frz _) (fun u hu => Array.all_eq_true_iff_forall_mem.1 (zHu x) u (by simpa using hu))
  rw [this]
  congr 2
  simp only [Nat.min_def]; split <;> omega
 obtain ⟨W2, hW2⟩ : ∃ W2, W2 = W1.setCells w.heap.size (i) (intC x).toList := ⟨_, rfl⟩
 have hC2 : HasC 3 w.heap.size (zAt ROW (i) (intC x).toList) W2 := by rw [hW2]; exact hC1.set _ _
 have hG2 : W1.grownBy W2 (some w.heap.size) := by rw [hW2]; exact zAi _ _ _ _
 have hg2 : HasC 3 g cur W2 := hg1.grown hG2 (fun e => by injection e with e; omega)
 have hb2 : Below w.heap.size w W2 := hb1.trans (zAs hG2 (Nat.le_refl _) hb1.size)
 rw [← hW2] at hcpA
 have hcpB : ∀ ty dc sc, (Builtin.copy_ #[53, 53] ty #[.slice (some ⟨w.heap.size, (i + 1), none⟩) (l.length - i) dc, .slice (some ⟨g, i, none⟩) (l.length - i) sc]).run Tryz.prog W2.drew = .ok (goInt (l.length - i : Nat)) (W2.drew.setCells w.heap.size ((i + 1)) ((l.drop i).flatMap fun x => (intC x).toList)) := fun ty dc sc => by
  have := zAy (P := Tryz.prog) W2.drew 53 53 ty 3 1 w.heap.size ((i + 1)) (l.length - i) dc ⟨g, i, none⟩ (l.length - i) sc ((l.drop i).flatMap fun x => (intC x).toList) Tryz.underlying53 Tryz.szIInt (by rw [hQl]; congr 1; simp only [Nat.min_def]; split <;> omega)
   (fun j v hj => by
    rw [Addr.add_lit]
    refine zBz (w := W2.drew) hg2 hfl (i) ((l.length - i) * 1) j v ?_
    rw [show (l.flatMap fun x => (intC x).toList).drop i = ((l.drop i).flatMap fun x => (intC x).toList) from by have hd := zCh (cells := intC) (n := 1) (fun _ => rfl) l i; rw [Nat.mul_one] at hd; exact hd, List.take_of_length_le (by rw [hQl]; exact Nat.le_refl _)]
    exact hj)
   (fun j hj => HasC.isSome (w := W2.drew) hC2 (by rw [zAj, hRs]; rw [hQl] at hj; omega)) (fun j _ => HasC.frz (w := W2.drew) hC2 _) (zDj zHu _)
  rw [this]
  congr 2
  simp only [Nat.min_def]; split <;> omega
 have hC3 : HasC 3 w.heap.size (zAt (zAt ROW (i) (intC x).toList) ((i + 1)) ((l.drop i).flatMap fun x => (intC x).toList)) (W2.drew.setCells w.heap.size ((i + 1)) ((l.drop i).flatMap fun x => (intC x).toList)) := HasC.set (w := W2.drew) hC2 _ _
 have hG3 : W2.grownBy (W2.drew.setCells w.heap.size ((i + 1)) ((l.drop i).flatMap fun x => (intC x).toList)) (some w.heap.size) := zBn (zAi _ _ _ _)
 have hb3 := hb2.trans (zAs hG3 (Nat.le_refl _) hb2.size)
 have hfin := ins_new (cells := intC) (n := 1) (fun _ => rfl) (x := x) hi (by rw [hRs]; exact Nat.mul_le_mul_right _ hGn) hRt
 have hlen : (insAt l i x).length = l.length + 1 := zBt x
 have HE : Hid (EPost B 3 1 intC (.slice (some ⟨g, 0, none⟩) l.length l.length) (insAt l i x) w (.returned (.slice (some ⟨w.heap.size, 0, none⟩) (l.length + 1) G)) (W2.drew.setCells w.heap.size ((i + 1)) ((l.drop i).flatMap fun x => (intC x).toList))) := hid ⟨_, rfl, OwnE.of_blk (g := w.heap.size) (cap := G) (by rw [hlen]) (by omega) hC3 (by rw [hlen]; exact hGn) hGm (by rw [zAj, zAj]; exact hRs) (by rw [hlen]; simp only [Nat.mul_one] at hfin ⊢; exact hfin) (fun _ => rfl), .inr (.inr ⟨w.heap.size, rfl, Nat.le_refl _⟩), zDk (Nat.le_refl _) hb3 _⟩
 have HRZ := hid hrz
 have HCPA := hid hcpA
 have HCPB := hid hcpB
 simp only [maxLen] at hGm
 clear hrz hcpA hcpB hC3 hG3 hb3 hfin hlen hW2 hW1 hC2 hG2 hg2 hb2 hC1 hb1 hx1 hg1 hRt hRs hROW hold hkk hik hPl hQl h hx hC hfl hG hi0 hz0 hk0 hs0 hb0 hc1 hc2 hsz
 have hz2 : ¬ ((i : Int) = (l.length : Int)) := by omega
 have hw1 : IntKind.i64.wrap ((i : Int) + 1) = (i : Int) + 1 := by rw [IntKind.wrap_i64]; omega
 have hb1 : (0 : Int) ≤ (i : Int) + 1 := by omega
 have htn : ((i : Int) + 1).toNat = i + 1 := by omega
 have hb4 : ¬ (l.length = i) := by omega
 have hin : i ≤ l.length := by omega
 have hb5 : (i : Int) ≤ (l.length : Int) := by omega
 have hGi : ¬ (G = i) := by omega
 have hGim : ¬ (G = i + 1) := by omega
 have hb6 : (i : Int) ≤ (l.length : Int) + 1 := by omega
 go_enter Tryz.func226, Tryz.ntmps226
 go_wp2_with (first | (at_builtin; refine Lib.wpList_append_run _ rfl _ _ _ _ rfl _ _ rfl rfl _ _ (HRZ.out _) ?_) | (refine zDf rfl _ _ 53 53 rfl _ _ rfl rfl (HCPA.out _ _) ?_))
 go_region_law (refine zEf rfl _ _ 53 53 rfl (.slice (some ⟨w.heap.size, (i + 1), none⟩) (l.length - i) (G - (i + 1))) (.slice (some ⟨g, i, none⟩) (l.length - i) (l.length - i)) (by simp [Act.eval, Act.put]) (by simp [Act.eval, Act.put]) (HCPB.out 3 (G - (i + 1)) (l.length - i)) ?_)
 go_wp2_with fail
 go_ret
 exact HE.out
theorem zJq (B : Nat) (v : Value) (l : List Int) (x : Int) (i xb : Nat) (w : World) (h : OwnE w B 3 1 intC v l) (hx : HasC 3 xb (intC x) w) (hne : v.ownBlock ≠ some xb) (hi : i ≤ l.length) (hB : B ≤ w.heap.size) (hl : l.length ≤ 1000000000) :
  Calls Tryz.prog 226 #[v, .int .i64 (i : Int), .slice (some ⟨xb, 0, none⟩) 1 1] w (EPost B 3 1 intC v (insAt l i x) w) := by
 rcases Nat.lt_or_eq_of_le hi with hlt | rfl
 ·obtain ⟨g, cap, cur, rfl, -, -, hc1, -⟩ := h.blk (by omega)
  rcases Nat.lt_or_eq_of_le hc1 with hc | rfl
  ·exact insRoomInt B g cap l x i xb w h hx (fun e => hne (by rw [e]; rfl)) hlt hc hl
  ·exact insGrowInt B g l x i xb w h hx hlt hl
 ·have e : insAt l l.length x = l ++ [x] := by unfold insAt; simp
  rw [e]
  exact insEndInt B v l x xb w h hx hB hl
section
variable {P : Program} {ops : Array Oper} {o : Oper} {a : Act} {w : World}
theorem zBk {K : Act → World → Prop} {Q : Exit → Act → World → Prop} {E : Prop} (hg : o.guard = none) (d x : Operand) (t t' : TypeId) (hop : o.op = Op.call { callee := Callee.builtin Builtin.append, args := #[d, x], argTypes := #[t, t'] })
  (v u : Value) (hd : a.eval d = v) (hx : a.eval x = u) {v' : Value} {w' : World} (hr : (Builtin.append_ #[t, t'] o.type #[v, u]).run P w = .ok v' w') (hK : K (a.put o.dst v') w') :
  if Region.wanted o (yielded ops a.tmps) = true then Oper.wp P o a w K Q else E := by
 have hw : Region.wanted o (yielded ops a.tmps) = true := by simp [Region.wanted, hg]
 rw [if_pos hw]
 unfold Oper.wp execOp
 simp only [hop, resolve, invoke, builtin, Sem.run_bind, Sem.run_pure, Result.andThen_ok, List.map_toArray, List.map_cons, List.map_nil, hd, hx, hr]
 exact hK
end
section
variable {α : Type} {cells : α → Array Value} {n : Nat}
theorem zFu (hl : ∀ x, (cells x).toList.length = n) {l : List α} {i : Nat} {cur : Array Value} (hi : i < l.length) (hs : l.length * n ≤ cur.size) (hc : cur.toList.take (l.length * n) = l.flatMap fun x => (cells x).toList) :
  (zAt cur (i * n) ((l.drop (i + 1)).flatMap fun x => (cells x).toList)).toList.take ((l.length - 1) * n) = (delAt l i).flatMap fun x => (cells x).toList := by
 have hq : ((l.drop (i + 1)).flatMap fun x => (cells x).toList).length = (l.length - (i + 1)) * n := by rw [zBv hl, List.length_drop]
 have hsum : i * n + (l.length - (i + 1)) * n = (l.length - 1) * n := by rw [← Nat.add_mul]; congr 1; omega
 have hle : (l.length - 1) * n ≤ l.length * n := Nat.mul_le_mul_right n (by omega)
 have hP : cur.toList.take (i * n) = (l.take i).flatMap fun x => (cells x).toList := by
  rw [← zFp hl, ← hc, List.take_take, Nat.min_eq_left (Nat.mul_le_mul_right n (Nat.le_of_lt hi))]
 have hPl : ((l.take i).flatMap fun x => (cells x).toList).length = i * n := by rw [zBv hl, List.length_take, Nat.min_eq_left (Nat.le_of_lt hi)]
 rw [zFn (by rw [hq]; omega), hP]
 unfold delAt
 rw [List.flatMap_append, ← List.append_assoc, List.take_append_of_le_length (by simp only [List.length_append, hPl, hq]; omega), List.take_of_length_le (by simp only [List.length_append, hPl, hq]; omega)]
end
theorem zFm {P : Program} {T : TypeId} {i : TypeInfo} {z : Value} (h : (P.info? T).map (fun i => i.zero.map (fun z => z.cells.toList.all (·.oneCell'))) = some (some true)) (hi : P.info? T = some i) (hz : i.zero = some z) : ∀ u ∈ z.cells.toList, u.oneCell' = true := by
 rw [hi] at h
 simp only [Option.map_some, hz, Option.some.injEq] at h
 exact fun u hu => List.all_eq_true.1 h u hu
theorem Tryz.infoDPRule : (Tryz.prog.info? 96).map (fun i => (i.zero.map (fun z => z.cells.size), i.size, i.bytes)) = some (some 5, 5, 40) := by kernel_rfl
theorem Tryz.oneDPRule : (Tryz.prog.info? 96).map (fun i => i.zero.map (fun z => z.cells.toList.all (·.oneCell'))) = some (some true) := by kernel_rfl
theorem delAtPRule_any (B : Nat) (v : Value) (l : List PRule) (i : Nat) (w : World) (h : OwnE w B 96 5 PRule.C v l) (hi : i < l.length) :
  Calls Tryz.prog 215 #[v, .int .i64 (i : Int), .int .i64 ((i : Int) + 1)] w (EPost B 96 5 PRule.C v (delAt l i) w) := by
 obtain ⟨g, cap, cur, rfl, hB, hC, hc1, hc2, hsz, hfl⟩ := h.blk (by omega)
 obtain ⟨i0, z0, hi0, hz0, hk0, hs0, -⟩ := zBs Tryz.infoDPRule
 have hone := zFm Tryz.oneDPRule hi0 hz0
 simp only [maxLen] at hc2
 have hcs : l.length * 5 ≤ cur.size := by rw [hsz]; exact Nat.mul_le_mul_right _ hc1
 have hQl : ((l.drop (i + 1)).flatMap fun x => (PRule.C x).toList).length = (l.length - (i + 1)) * 5 := by rw [zBv (cells := PRule.C) (n := 5) (fun _ => rfl), List.length_drop]
 have hap : ∀ (ty : TypeId) (A : Option Addr) (c : Nat), (i + 1 < l.length → A = some ⟨g, (i + 1) * 5, none⟩) → A ≠ none → (Builtin.append_ #[92, 92] ty #[.slice (some ⟨g, 0, none⟩) i cap, .slice A (l.length - (i + 1)) c]).run Tryz.prog w.drew = .ok (.slice (some ⟨g, 0, none⟩) (l.length - 1) cap) (w.drew.setCells g (i * 5) ((l.drop (i + 1)).flatMap fun x => (PRule.C x).toList)) := fun ty A c hA hn => by
  obtain ⟨ad, rfl⟩ := Option.ne_none_iff_exists'.1 hn
  have h := run_append_room_cells (P := Tryz.prog) w.drew 92 ty 96 i0 Tryz.underlying92 hi0 g 0 i cap ad (l.length - (i + 1)) c ((l.drop (i + 1)).flatMap fun x => (PRule.C x).toList) (by rw [hs0, hQl])
   (fun j v hj => by
    have hlt : i + 1 < l.length := by
     rcases Nat.lt_or_ge (i + 1) l.length with h | h
     ·exact h
     ·rw [List.drop_eq_nil_of_le h] at hj; simp at hj
    have e := hA hlt
    injection e with e
    rw [e, Addr.add_lit]
    refine zBz (w := w.drew) hC hfl ((i + 1) * 5) ((l.length - (i + 1)) * 5) j v ?_
    rw [zCh (cells := PRule.C) (n := 5) (fun _ => rfl), List.take_of_length_le (by rw [hQl]; exact Nat.le_refl _)]
    exact hj)
   (zDj PRule.one _) (by omega)
   (fun j hj => HasC.isSome (w := w.drew) hC (by rw [hs0]; rw [hQl] at hj; omega)) (fun j _ => HasC.frz (w := w.drew) hC _)
  rw [hs0, show i + (l.length - (i + 1)) = l.length - 1 from by omega, show 0 + i * 5 = i * 5 from by omega] at h
  exact h
 obtain ⟨W1, hW1⟩ : ∃ W1, W1 = w.drew.setCells g (i * 5) ((l.drop (i + 1)).flatMap fun x => (PRule.C x).toList) := ⟨_, rfl⟩
 have hC1 : HasC 96 g (zAt cur (i * 5) ((l.drop (i + 1)).flatMap fun x => (PRule.C x).toList)) W1 := by rw [hW1]; exact HasC.set (w := w.drew) hC _ _
 have hG1 : w.grownBy W1 (some g) := by rw [hW1]; exact zBn (zAi _ _ _ _)
 have hcl : ∀ ty c, (Builtin.clear_ #[92] ty #[.slice (some ⟨g, (l.length - 1) * 5, none⟩) 1 c]).run Tryz.prog W1 = .ok (.tuple #[]) (W1.setCells g ((l.length - 1) * 5) (Builtin.zeroCells z0.cells 1).toList) := fun ty c => by
  refine zCn W1 _ 96 ty z0 Tryz.underlying92 (fun w => by simp [zeroValue, typeInfo, hi0, hz0]) hone g ((l.length - 1) * 5) 1 c (by decide) (fun t ht => ?_) (fun t _ => hC1.frz _)
  rw [hk0] at ht
  exact hC1.isSome (by rw [zAj]; omega)
 have hfin := zFu (cells := PRule.C) (n := 5) (fun _ => rfl) hi hcs hfl
 have hlen : (delAt l i).length = l.length - 1 := zEi hi
 generalize (Builtin.zeroCells z0.cells 1).toList = zs at hcl
 have hfin2 : (zAt (zAt cur (i * 5) ((l.drop (i + 1)).flatMap fun x => (PRule.C x).toList)) ((l.length - 1) * 5) zs).toList.take ((delAt l i).length * 5) = (delAt l i).flatMap fun x => (PRule.C x).toList := by
  rw [hlen, show (l.length - 1) * 5 = (l.length - 1) * 5 from by omega, zDe]
  exact hfin
 have HE : Hid (EPost B 96 5 PRule.C (.slice (some ⟨g, 0, none⟩) l.length cap) (delAt l i) w (.returned (.slice (some ⟨g, 0, none⟩) (l.length - 1) cap)) (W1.setCells g ((l.length - 1) * 5) zs)) := hid ⟨_, rfl, OwnE.of_blk (g := g) (cap := cap) (by rw [hlen]) hB (hC1.set _ _) (by rw [hlen]; omega) (by simp only [maxLen]; omega) (by rw [zAj, zAj]; exact hsz) hfin2 (fun _ => rfl), .inl rfl, hG1.trans (zAi _ _ _ _)⟩
 rw [← hW1] at hap
 have HAP := hid hap
 have HCL := hid hcl
 clear hap hcl hfin hfin2 hlen hW1 hC1 hG1 h hC hfl hQl hi0 hz0 hk0 hs0 hone hcs hsz hB
 have hw1 : IntKind.i64.wrap ((i : Int) + 1) = (i : Int) + 1 := by rw [IntKind.wrap_i64]; omega
 have hb1 : (0 : Int) ≤ (i : Int) + 1 := by omega
 have htn : ((i : Int) + 1).toNat = i + 1 := by omega
 have hin : i ≤ l.length := by omega
 have hin1 : i + 1 ≤ l.length := by omega
 have hb5 : (i : Int) ≤ (l.length : Int) := by omega
 have hb6 : (i : Int) + 1 ≤ (l.length : Int) := by omega
 have hb7 : (i : Int) < (l.length : Int) := by omega
 have hb8 : ((l.length - 1 : Nat) : Int) ≤ (l.length : Int) := by omega
 have hb9 : l.length - 1 ≤ l.length := by omega
 have hb10 : l.length - (l.length - 1) = 1 := by omega
 have hb11 : ¬ (cap = l.length - 1) := by omega
 have hb12 : ¬ (cap = i) := by omega
 have hb13 : (i : Int) ≤ (cap : Int) := by omega
 have hb14 : i ≤ cap := by omega
 have hb15 : (i : Int) ≤ (i : Int) + 1 := by omega
 by_cases hca : cap = i + 1
 ·subst hca
  go_enter Tryz.func215, Tryz.ntmps215
  go_wp2_with fail
  go_region_law (refine zBk rfl _ _ 92 92 rfl (.slice (some ⟨g, 0, none⟩) i (i + 1)) (.slice (some ⟨g, 0, none⟩) (l.length - (i + 1)) (i + 1 - (i + 1))) (by simp [Act.eval, Act.put]) (by simp [Act.eval, Act.put]; omega) (HAP.out 92 _ _ (fun h => by omega) (by simp)) ?_)
  go_wp2_with (simp only [HCL.out])
  go_ret
  exact HE.out
 ·go_enter Tryz.func215, Tryz.ntmps215
  go_wp2_with fail
  go_region_law (refine zBk rfl _ _ 92 92 rfl (.slice (some ⟨g, 0, none⟩) i cap) (.slice (some ⟨g, (i + 1) * 5, none⟩) (l.length - (i + 1)) (cap - (i + 1))) (by simp [Act.eval, Act.put]) (by simp [Act.eval, Act.put]) (HAP.out 92 _ _ (fun _ => rfl) (by simp)) ?_)
  go_wp2_with (simp only [HCL.out])
  go_ret
  exact HE.out
theorem Tryz.infoDCl : (Tryz.prog.info? 101).map (fun i => (i.zero.map (fun z => z.cells.size), i.size, i.bytes)) = some (some 7, 7, 64) := by kernel_rfl
theorem Tryz.oneDCl : (Tryz.prog.info? 101).map (fun i => i.zero.map (fun z => z.cells.toList.all (·.oneCell'))) = some (some true) := by kernel_rfl
theorem delAtCl_any (B : Nat) (v : Value) (l : List Cl) (i : Nat) (w : World) (h : OwnE w B 101 7 Cl.C v l) (hi : i < l.length) :
  Calls Tryz.prog 219 #[v, .int .i64 (i : Int), .int .i64 ((i : Int) + 1)] w (EPost B 101 7 Cl.C v (delAt l i) w) := by
 obtain ⟨g, cap, cur, rfl, hB, hC, hc1, hc2, hsz, hfl⟩ := h.blk (by omega)
 obtain ⟨i0, z0, hi0, hz0, hk0, hs0, -⟩ := zBs Tryz.infoDCl
 have hone := zFm Tryz.oneDCl hi0 hz0
 simp only [maxLen] at hc2
 have hcs : l.length * 7 ≤ cur.size := by rw [hsz]; exact Nat.mul_le_mul_right _ hc1
 have hQl : ((l.drop (i + 1)).flatMap fun x => (Cl.C x).toList).length = (l.length - (i + 1)) * 7 := by rw [zBv (cells := Cl.C) (n := 7) (fun _ => rfl), List.length_drop]
 have hap : ∀ (ty : TypeId) (A : Option Addr) (c : Nat), (i + 1 < l.length → A = some ⟨g, (i + 1) * 7, none⟩) → A ≠ none → (Builtin.append_ #[97, 97] ty #[.slice (some ⟨g, 0, none⟩) i cap, .slice A (l.length - (i + 1)) c]).run Tryz.prog w.drew = .ok (.slice (some ⟨g, 0, none⟩) (l.length - 1) cap) (w.drew.setCells g (i * 7) ((l.drop (i + 1)).flatMap fun x => (Cl.C x).toList)) := fun ty A c hA hn => by
  obtain ⟨ad, rfl⟩ := Option.ne_none_iff_exists'.1 hn
  have h := run_append_room_cells (P := Tryz.prog) w.drew 97 ty 101 i0 Tryz.underlying97 hi0 g 0 i cap ad (l.length - (i + 1)) c ((l.drop (i + 1)).flatMap fun x => (Cl.C x).toList) (by rw [hs0, hQl])
   (fun j v hj => by
    have hlt : i + 1 < l.length := by
     rcases Nat.lt_or_ge (i + 1) l.length with h | h
     ·exact h
     ·rw [List.drop_eq_nil_of_le h] at hj; simp at hj
    have e := hA hlt
    injection e with e
    rw [e, Addr.add_lit]
    refine zBz (w := w.drew) hC hfl ((i + 1) * 7) ((l.length - (i + 1)) * 7) j v ?_
    rw [zCh (cells := Cl.C) (n := 7) (fun _ => rfl), List.take_of_length_le (by rw [hQl]; exact Nat.le_refl _)]
    exact hj)
   (zDj Cl.one _) (by omega)
   (fun j hj => HasC.isSome (w := w.drew) hC (by rw [hs0]; rw [hQl] at hj; omega)) (fun j _ => HasC.frz (w := w.drew) hC _)
  rw [hs0, show i + (l.length - (i + 1)) = l.length - 1 from by omega, show 0 + i * 7 = i * 7 from by omega] at h
  exact h
 obtain ⟨W1, hW1⟩ : ∃ W1, W1 = w.drew.setCells g (i * 7) ((l.drop (i + 1)).flatMap fun x => (Cl.C x).toList) := ⟨_, rfl⟩
 have hC1 : HasC 101 g (zAt cur (i * 7) ((l.drop (i + 1)).flatMap fun x => (Cl.C x).toList)) W1 := by rw [hW1]; exact HasC.set (w := w.drew) hC _ _
 have hG1 : w.grownBy W1 (some g) := by rw [hW1]; exact zBn (zAi _ _ _ _)
 have hcl : ∀ ty c, (Builtin.clear_ #[97] ty #[.slice (some ⟨g, (l.length - 1) * 7, none⟩) 1 c]).run Tryz.prog W1 = .ok (.tuple #[]) (W1.setCells g ((l.length - 1) * 7) (Builtin.zeroCells z0.cells 1).toList) := fun ty c => by
  refine zCn W1 _ 101 ty z0 Tryz.underlying97 (fun w => by simp [zeroValue, typeInfo, hi0, hz0]) hone g ((l.length - 1) * 7) 1 c (by decide) (fun t ht => ?_) (fun t _ => hC1.frz _)
  rw [hk0] at ht
  exact hC1.isSome (by rw [zAj]; omega)
 have hfin := zFu (cells := Cl.C) (n := 7) (fun _ => rfl) hi hcs hfl
 have hlen : (delAt l i).length = l.length - 1 := zEi hi
 generalize (Builtin.zeroCells z0.cells 1).toList = zs at hcl
 have hfin2 : (zAt (zAt cur (i * 7) ((l.drop (i + 1)).flatMap fun x => (Cl.C x).toList)) ((l.length - 1) * 7) zs).toList.take ((delAt l i).length * 7) = (delAt l i).flatMap fun x => (Cl.C x).toList := by
  rw [hlen, show (l.length - 1) * 7 = (l.length - 1) * 7 from by omega, zDe]
  exact hfin
 have HE : Hid (EPost B 101 7 Cl.C (.slice (some ⟨g, 0, none⟩) l.length cap) (delAt l i) w (.returned (.slice (some ⟨g, 0, none⟩) (l.length - 1) cap)) (W1.setCells g ((l.length - 1) * 7) zs)) := hid ⟨_, rfl, OwnE.of_blk (g := g) (cap := cap) (by rw [hlen]) hB (hC1.set _ _) (by rw [hlen]; omega) (by simp only [maxLen]; omega) (by rw [zAj, zAj]; exact hsz) hfin2 (fun _ => rfl), .inl rfl, hG1.trans (zAi _ _ _ _)⟩
 rw [← hW1] at hap
 have HAP := hid hap
 have HCL := hid hcl
 clear hap hcl hfin hfin2 hlen hW1 hC1 hG1 h hC hfl hQl hi0 hz0 hk0 hs0 hone hcs hsz hB
 have hw1 : IntKind.i64.wrap ((i : Int) + 1) = (i : Int) + 1 := by rw [IntKind.wrap_i64]; omega
 have hb1 : (0 : Int) ≤ (i : Int) + 1 := by omega
 have htn : ((i : Int) + 1).toNat = i + 1 := by omega
 have hin : i ≤ l.length := by omega
 have hin1 : i + 1 ≤ l.length := by omega
 have hb5 : (i : Int) ≤ (l.length : Int) := by omega
 have hb6 : (i : Int) + 1 ≤ (l.length : Int) := by omega
 have hb7 : (i : Int) < (l.length : Int) := by omega
 have hb8 : ((l.length - 1 : Nat) : Int) ≤ (l.length : Int) := by omega
 have hb9 : l.length - 1 ≤ l.length := by omega
 have hb10 : l.length - (l.length - 1) = 1 := by omega
 have hb11 : ¬ (cap = l.length - 1) := by omega
 have hb12 : ¬ (cap = i) := by omega
 have hb13 : (i : Int) ≤ (cap : Int) := by omega
 have hb14 : i ≤ cap := by omega
 have hb15 : (i : Int) ≤ (i : Int) + 1 := by omega
 by_cases hca : cap = i + 1
 ·subst hca
  go_enter Tryz.func219, Tryz.ntmps219
  go_wp2_with fail
  go_region_law (refine zBk rfl _ _ 97 97 rfl (.slice (some ⟨g, 0, none⟩) i (i + 1)) (.slice (some ⟨g, 0, none⟩) (l.length - (i + 1)) (i + 1 - (i + 1))) (by simp [Act.eval, Act.put]) (by simp [Act.eval, Act.put]; omega) (HAP.out 97 _ _ (fun h => by omega) (by simp)) ?_)
  go_wp2_with (simp only [HCL.out])
  go_ret
  exact HE.out
 ·go_enter Tryz.func219, Tryz.ntmps219
  go_wp2_with fail
  go_region_law (refine zBk rfl _ _ 97 97 rfl (.slice (some ⟨g, 0, none⟩) i cap) (.slice (some ⟨g, (i + 1) * 7, none⟩) (l.length - (i + 1)) (cap - (i + 1))) (by simp [Act.eval, Act.put]) (by simp [Act.eval, Act.put]) (HAP.out 97 _ _ (fun _ => rfl) (by simp)) ?_)
  go_wp2_with (simp only [HCL.out])
  go_ret
  exact HE.out
theorem Tryz.infoDRu : (Tryz.prog.info? 110).map (fun i => (i.zero.map (fun z => z.cells.size), i.size, i.bytes)) = some (some 10, 10, 64) := by kernel_rfl
theorem Tryz.oneDRu : (Tryz.prog.info? 110).map (fun i => i.zero.map (fun z => z.cells.toList.all (·.oneCell'))) = some (some true) := by kernel_rfl
theorem delAtRu_any (B : Nat) (v : Value) (l : List Ru) (i : Nat) (w : World) (h : OwnE w B 110 10 Ru.C v l) (hi : i < l.length) :
  Calls Tryz.prog 223 #[v, .int .i64 (i : Int), .int .i64 ((i : Int) + 1)] w (EPost B 110 10 Ru.C v (delAt l i) w) := by
 obtain ⟨g, cap, cur, rfl, hB, hC, hc1, hc2, hsz, hfl⟩ := h.blk (by omega)
 obtain ⟨i0, z0, hi0, hz0, hk0, hs0, -⟩ := zBs Tryz.infoDRu
 have hone := zFm Tryz.oneDRu hi0 hz0
 simp only [maxLen] at hc2
 have hcs : l.length * 10 ≤ cur.size := by rw [hsz]; exact Nat.mul_le_mul_right _ hc1
 have hQl : ((l.drop (i + 1)).flatMap fun x => (Ru.C x).toList).length = (l.length - (i + 1)) * 10 := by rw [zBv (cells := Ru.C) (n := 10) (fun _ => rfl), List.length_drop]
 have hap : ∀ (ty : TypeId) (A : Option Addr) (c : Nat), (i + 1 < l.length → A = some ⟨g, (i + 1) * 10, none⟩) → A ≠ none → (Builtin.append_ #[102, 102] ty #[.slice (some ⟨g, 0, none⟩) i cap, .slice A (l.length - (i + 1)) c]).run Tryz.prog w.drew = .ok (.slice (some ⟨g, 0, none⟩) (l.length - 1) cap) (w.drew.setCells g (i * 10) ((l.drop (i + 1)).flatMap fun x => (Ru.C x).toList)) := fun ty A c hA hn => by
  obtain ⟨ad, rfl⟩ := Option.ne_none_iff_exists'.1 hn
  have h := run_append_room_cells (P := Tryz.prog) w.drew 102 ty 110 i0 Tryz.underlying102 hi0 g 0 i cap ad (l.length - (i + 1)) c ((l.drop (i + 1)).flatMap fun x => (Ru.C x).toList) (by rw [hs0, hQl])
   (fun j v hj => by
    have hlt : i + 1 < l.length := by
     rcases Nat.lt_or_ge (i + 1) l.length with h | h
     ·exact h
     ·rw [List.drop_eq_nil_of_le h] at hj; simp at hj
    have e := hA hlt
    injection e with e
    rw [e, Addr.add_lit]
    refine zBz (w := w.drew) hC hfl ((i + 1) * 10) ((l.length - (i + 1)) * 10) j v ?_
    rw [zCh (cells := Ru.C) (n := 10) (fun _ => rfl), List.take_of_length_le (by rw [hQl]; exact Nat.le_refl _)]
    exact hj)
   (zDj Ru.one _) (by omega)
   (fun j hj => HasC.isSome (w := w.drew) hC (by rw [hs0]; rw [hQl] at hj; omega)) (fun j _ => HasC.frz (w := w.drew) hC _)
  rw [hs0, show i + (l.length - (i + 1)) = l.length - 1 from by omega, show 0 + i * 10 = i * 10 from by omega] at h
  exact h
 obtain ⟨W1, hW1⟩ : ∃ W1, W1 = w.drew.setCells g (i * 10) ((l.drop (i + 1)).flatMap fun x => (Ru.C x).toList) := ⟨_, rfl⟩
 have hC1 : HasC 110 g (zAt cur (i * 10) ((l.drop (i + 1)).flatMap fun x => (Ru.C x).toList)) W1 := by rw [hW1]; exact HasC.set (w := w.drew) hC _ _
 have hG1 : w.grownBy W1 (some g) := by rw [hW1]; exact zBn (zAi _ _ _ _)
 have hcl : ∀ ty c, (Builtin.clear_ #[102] ty #[.slice (some ⟨g, (l.length - 1) * 10, none⟩) 1 c]).run Tryz.prog W1 = .ok (.tuple #[]) (W1.setCells g ((l.length - 1) * 10) (Builtin.zeroCells z0.cells 1).toList) := fun ty c => by
  refine zCn W1 _ 110 ty z0 Tryz.underlying102 (fun w => by simp [zeroValue, typeInfo, hi0, hz0]) hone g ((l.length - 1) * 10) 1 c (by decide) (fun t ht => ?_) (fun t _ => hC1.frz _)
  rw [hk0] at ht
  exact hC1.isSome (by rw [zAj]; omega)
 have hfin := zFu (cells := Ru.C) (n := 10) (fun _ => rfl) hi hcs hfl
 have hlen : (delAt l i).length = l.length - 1 := zEi hi
 generalize (Builtin.zeroCells z0.cells 1).toList = zs at hcl
 have hfin2 : (zAt (zAt cur (i * 10) ((l.drop (i + 1)).flatMap fun x => (Ru.C x).toList)) ((l.length - 1) * 10) zs).toList.take ((delAt l i).length * 10) = (delAt l i).flatMap fun x => (Ru.C x).toList := by
  rw [hlen, show (l.length - 1) * 10 = (l.length - 1) * 10 from by omega, zDe]
  exact hfin
 have HE : Hid (EPost B 110 10 Ru.C (.slice (some ⟨g, 0, none⟩) l.length cap) (delAt l i) w (.returned (.slice (some ⟨g, 0, none⟩) (l.length - 1) cap)) (W1.setCells g ((l.length - 1) * 10) zs)) := hid ⟨_, rfl, OwnE.of_blk (g := g) (cap := cap) (by rw [hlen]) hB (hC1.set _ _) (by rw [hlen]; omega) (by simp only [maxLen]; omega) (by rw [zAj, zAj]; exact hsz) hfin2 (fun _ => rfl), .inl rfl, hG1.trans (zAi _ _ _ _)⟩
 rw [← hW1] at hap
 have HAP := hid hap
 have HCL := hid hcl
 clear hap hcl hfin hfin2 hlen hW1 hC1 hG1 h hC hfl hQl hi0 hz0 hk0 hs0 hone hcs hsz hB
 have hw1 : IntKind.i64.wrap ((i : Int) + 1) = (i : Int) + 1 := by rw [IntKind.wrap_i64]; omega
 have hb1 : (0 : Int) ≤ (i : Int) + 1 := by omega
 have htn : ((i : Int) + 1).toNat = i + 1 := by omega
 have hin : i ≤ l.length := by omega
 have hin1 : i + 1 ≤ l.length := by omega
 have hb5 : (i : Int) ≤ (l.length : Int) := by omega
 have hb6 : (i : Int) + 1 ≤ (l.length : Int) := by omega
 have hb7 : (i : Int) < (l.length : Int) := by omega
 have hb8 : ((l.length - 1 : Nat) : Int) ≤ (l.length : Int) := by omega
 have hb9 : l.length - 1 ≤ l.length := by omega
 have hb10 : l.length - (l.length - 1) = 1 := by omega
 have hb11 : ¬ (cap = l.length - 1) := by omega
 have hb12 : ¬ (cap = i) := by omega
 have hb13 : (i : Int) ≤ (cap : Int) := by omega
 have hb14 : i ≤ cap := by omega
 have hb15 : (i : Int) ≤ (i : Int) + 1 := by omega
 by_cases hca : cap = i + 1
 ·subst hca
  go_enter Tryz.func223, Tryz.ntmps223
  go_wp2_with fail
  go_region_law (refine zBk rfl _ _ 102 102 rfl (.slice (some ⟨g, 0, none⟩) i (i + 1)) (.slice (some ⟨g, 0, none⟩) (l.length - (i + 1)) (i + 1 - (i + 1))) (by simp [Act.eval, Act.put]) (by simp [Act.eval, Act.put]; omega) (HAP.out 102 _ _ (fun h => by omega) (by simp)) ?_)
  go_wp2_with (simp only [HCL.out])
  go_ret
  exact HE.out
 ·go_enter Tryz.func223, Tryz.ntmps223
  go_wp2_with fail
  go_region_law (refine zBk rfl _ _ 102 102 rfl (.slice (some ⟨g, 0, none⟩) i cap) (.slice (some ⟨g, (i + 1) * 10, none⟩) (l.length - (i + 1)) (cap - (i + 1))) (by simp [Act.eval, Act.put]) (by simp [Act.eval, Act.put]) (HAP.out 102 _ _ (fun _ => rfl) (by simp)) ?_)
  go_wp2_with (simp only [HCL.out])
  go_ret
  exact HE.out
theorem Tryz.infoDInt : (Tryz.prog.info? 3).map (fun i => (i.zero.map (fun z => z.cells.size), i.size, i.bytes)) = some (some 1, 1, 8) := by kernel_rfl
theorem Tryz.oneDInt : (Tryz.prog.info? 3).map (fun i => i.zero.map (fun z => z.cells.toList.all (·.oneCell'))) = some (some true) := by kernel_rfl
theorem zHi (B : Nat) (v : Value) (l : List Int) (i : Nat) (w : World) (h : OwnE w B 3 1 intC v l) (hi : i < l.length) :
  Calls Tryz.prog 214 #[v, .int .i64 (i : Int), .int .i64 ((i : Int) + 1)] w (EPost B 3 1 intC v (delAt l i) w) := by
 obtain ⟨g, cap, cur, rfl, hB, hC, hc1, hc2, hsz, hfl⟩ := h.blk (by omega)
 obtain ⟨i0, z0, hi0, hz0, hk0, hs0, -⟩ := zBs Tryz.infoDInt
 have hone := zFm Tryz.oneDInt hi0 hz0
 simp only [maxLen] at hc2
 have hcs : l.length * 1 ≤ cur.size := by rw [hsz]; exact Nat.mul_le_mul_right _ hc1
 have hQl : ((l.drop (i + 1)).flatMap fun x => (intC x).toList).length = (l.length - (i + 1)) * 1 := by rw [zBv (cells := intC) (n := 1) (fun _ => rfl), List.length_drop]
 have hap : ∀ (ty : TypeId) (A : Option Addr) (c : Nat), (i + 1 < l.length → A = some ⟨g, (i + 1), none⟩) → A ≠ none → (Builtin.append_ #[53, 53] ty #[.slice (some ⟨g, 0, none⟩) i cap, .slice A (l.length - (i + 1)) c]).run Tryz.prog w.drew = .ok (.slice (some ⟨g, 0, none⟩) (l.length - 1) cap) (w.drew.setCells g (i) ((l.drop (i + 1)).flatMap fun x => (intC x).toList)) := fun ty A c hA hn => by
  obtain ⟨ad, rfl⟩ := Option.ne_none_iff_exists'.1 hn
  have h := run_append_room_cells (P := Tryz.prog) w.drew 53 ty 3 i0 Tryz.underlying53 hi0 g 0 i cap ad (l.length - (i + 1)) c ((l.drop (i + 1)).flatMap fun x => (intC x).toList) (by rw [hs0, hQl])
   (fun j v hj => by
    have hlt : i + 1 < l.length := by
     rcases Nat.lt_or_ge (i + 1) l.length with h | h
     ·exact h
     ·rw [List.drop_eq_nil_of_le h] at hj; simp at hj
    have e := hA hlt
    injection e with e
    rw [e, Addr.add_lit]
    refine zBz (w := w.drew) hC hfl ((i + 1)) ((l.length - (i + 1)) * 1) j v ?_
    rw [show (l.flatMap fun x => (intC x).toList).drop (i + 1) = ((l.drop (i + 1)).flatMap fun x => (intC x).toList) from by have hd := zCh (cells := intC) (n := 1) (fun _ => rfl) l (i + 1); rw [Nat.mul_one] at hd; exact hd, List.take_of_length_le (by rw [hQl]; exact Nat.le_refl _)]
    exact hj)
   (zDj zHu _) (by omega)
   (fun j hj => HasC.isSome (w := w.drew) hC (by rw [hs0]; rw [hQl] at hj; omega)) (fun j _ => HasC.frz (w := w.drew) hC _)
  rw [hs0, show i + (l.length - (i + 1)) = l.length - 1 from by omega, show 0 + i * 1 = i from by omega] at h
  exact h
 obtain ⟨W1, hW1⟩ : ∃ W1, W1 = w.drew.setCells g (i) ((l.drop (i + 1)).flatMap fun x => (intC x).toList) := ⟨_, rfl⟩
 have hC1 : HasC 3 g (zAt cur (i) ((l.drop (i + 1)).flatMap fun x => (intC x).toList)) W1 := by rw [hW1]; exact HasC.set (w := w.drew) hC _ _
 have hG1 : w.grownBy W1 (some g) := by rw [hW1]; exact zBn (zAi _ _ _ _)
 have hcl : ∀ ty c, (Builtin.clear_ #[53] ty #[.slice (some ⟨g, (l.length - 1), none⟩) 1 c]).run Tryz.prog W1 = .ok (.tuple #[]) (W1.setCells g ((l.length - 1)) (Builtin.zeroCells z0.cells 1).toList) := fun ty c => by
  refine zCn W1 _ 3 ty z0 Tryz.underlying53 (fun w => by simp [zeroValue, typeInfo, hi0, hz0]) hone g ((l.length - 1)) 1 c (by decide) (fun t ht => ?_) (fun t _ => hC1.frz _)
  rw [hk0] at ht
  exact hC1.isSome (by rw [zAj]; omega)
 have hfin := zFu (cells := intC) (n := 1) (fun _ => rfl) hi hcs hfl
 have hlen : (delAt l i).length = l.length - 1 := zEi hi
 generalize (Builtin.zeroCells z0.cells 1).toList = zs at hcl
 have hfin2 : (zAt (zAt cur (i) ((l.drop (i + 1)).flatMap fun x => (intC x).toList)) ((l.length - 1)) zs).toList.take ((delAt l i).length * 1) = (delAt l i).flatMap fun x => (intC x).toList := by
  rw [hlen, show (l.length - 1) * 1 = (l.length - 1) from by omega, zDe]
  simp only [Nat.mul_one] at hfin
  exact hfin
 have HE : Hid (EPost B 3 1 intC (.slice (some ⟨g, 0, none⟩) l.length cap) (delAt l i) w (.returned (.slice (some ⟨g, 0, none⟩) (l.length - 1) cap)) (W1.setCells g ((l.length - 1)) zs)) := hid ⟨_, rfl, OwnE.of_blk (g := g) (cap := cap) (by rw [hlen]) hB (hC1.set _ _) (by rw [hlen]; omega) (by simp only [maxLen]; omega) (by rw [zAj, zAj]; exact hsz) hfin2 (fun _ => rfl), .inl rfl, hG1.trans (zAi _ _ _ _)⟩
 rw [← hW1] at hap
 have HAP := hid hap
 have HCL := hid hcl
 clear hap hcl hfin hfin2 hlen hW1 hC1 hG1 h hC hfl hQl hi0 hz0 hk0 hs0 hone hcs hsz hB
 have hw1 : IntKind.i64.wrap ((i : Int) + 1) = (i : Int) + 1 := by rw [IntKind.wrap_i64]; omega
 have hb1 : (0 : Int) ≤ (i : Int) + 1 := by omega
 have htn : ((i : Int) + 1).toNat = i + 1 := by omega
 have hin : i ≤ l.length := by omega
 have hin1 : i + 1 ≤ l.length := by omega
 have hb5 : (i : Int) ≤ (l.length : Int) := by omega
 have hb6 : (i : Int) + 1 ≤ (l.length : Int) := by omega
 have hb7 : (i : Int) < (l.length : Int) := by omega
 have hb8 : ((l.length - 1 : Nat) : Int) ≤ (l.length : Int) := by omega
 have hb9 : l.length - 1 ≤ l.length := by omega
 have hb10 : l.length - (l.length - 1) = 1 := by omega
 have hb11 : ¬ (cap = l.length - 1) := by omega
 have hb12 : ¬ (cap = i) := by omega
 have hb13 : (i : Int) ≤ (cap : Int) := by omega
 have hb14 : i ≤ cap := by omega
 have hb15 : (i : Int) ≤ (i : Int) + 1 := by omega
 by_cases hca : cap = i + 1
 ·subst hca
  go_enter Tryz.func214, Tryz.ntmps214
  go_wp2_with fail
  go_region_law (refine zBk rfl _ _ 53 53 rfl (.slice (some ⟨g, 0, none⟩) i (i + 1)) (.slice (some ⟨g, 0, none⟩) (l.length - (i + 1)) (i + 1 - (i + 1))) (by simp [Act.eval, Act.put]) (by simp [Act.eval, Act.put]; omega) (HAP.out 53 _ _ (fun h => by omega) (by simp)) ?_)
  go_wp2_with (simp only [HCL.out])
  go_ret
  exact HE.out
 ·go_enter Tryz.func214, Tryz.ntmps214
  go_wp2_with fail
  go_region_law (refine zBk rfl _ _ 53 53 rfl (.slice (some ⟨g, 0, none⟩) i cap) (.slice (some ⟨g, (i + 1), none⟩) (l.length - (i + 1)) (cap - (i + 1))) (by simp [Act.eval, Act.put]) (by simp [Act.eval, Act.put]) (HAP.out 53 _ _ (fun _ => rfl) (by simp)) ?_)
  go_wp2_with (simp only [HCL.out])
  go_ret
  exact HE.out
end Go.Proofs.YtoceoaiokkbjeaaGreatDoor
