/- The lookups of package model: Interface, PrefixList, RouteMap, ACL by name, Address; within. Condition: the router lies in memory. -/
import Derived.Test.YtoceoaiokkbjeaaGreatDoorWl
import Derived.Test.YtoceoaiokkbjeaaGreatDoorWm
set_option maxRecDepth 8000
set_option maxHeartbeats 1000000
namespace Go.Proofs.YtoceoaiokkbjeaaGreatDoor
open Lib (hid)
open Go.RowKit Go.Shelf
def idxF {α : Type} (p : α → Bool) : List α → Nat → Int
 | [], _ => -1
 | y :: r, i => if p y then (i : Int) else idxF p r (i + 1)
theorem idxF_lib {α : Type} (p : α → Bool) (d : α) : ∀ (l : List α) (i : Nat), Lib.idxByFrom (fun _ y => p y) d l i = idxF p l i
 | [], _ => rfl
 | y :: r, i => by unfold Lib.idxByFrom idxF; rw [idxF_lib p d r (i + 1)]
theorem zGj {α : Type} (p : α → Bool) (d : α) (l : List α) : Lib.idxBy (fun _ y => p y) (l.take l.length) d = idxF p l 0 := by
 rw [List.take_length]; exact idxF_lib p d l 0
theorem idxF_bd {α : Type} (p : α → Bool) : ∀ (l : List α) (i : Nat), -1 ≤ idxF p l i ∧ idxF p l i < (i + l.length : Nat)
 | [], i => ⟨Int.le_refl _, by unfold idxF; omega⟩
 | y :: r, i => by
  unfold idxF
  have := idxF_bd p r (i + 1)
  split
  ·exact ⟨by omega, by simp only [List.length_cons]; omega⟩
  ·exact ⟨this.1, by simp only [List.length_cons] at this ⊢; omega⟩
theorem SlV.cells {α : Type} [Inhabited α] {w : World} {B n : Nat} {cells : α → Array Value} {v : Value} {xs : List α} (hn : 0 < n) (hl : ∀ x, (cells x).toList.length = n) (h : SlV w B n cells v xs) :
  xs = [] ∨ ∃ g o c, v = .slice (some ⟨g, o, none⟩) xs.length c ∧ g < B ∧ ∀ j, j < xs.length → ∀ i u, ((cells xs[j]!).toList)[i]? = some u → w.cell? ⟨g, o + j * n + i, none⟩ = some u := by
 cases xs with
 | nil => exact .inl rfl
 | cons y r =>
  right
  obtain ⟨A, c, rfl, _, A', c', e, _, _, _, h⟩ := h
  injection e with e1 e2 e3
  subst e1
  obtain ⟨g, o, rfl, hg, hc⟩ := h (by simp)
  refine ⟨g, o, c, rfl, hg, fun j hj i u hu => ?_⟩
  have hi : i < n := by
   rcases Nat.lt_or_ge i n with h' | h'
   ·exact h'
   ·rw [List.getElem?_eq_none (by rw [hl]; exact h')] at hu; cases hu
  rw [Nat.add_assoc]
  refine hc (j * n + i) u ?_
  rw [zGr (fun x => (cells x).toList) hn hl, Nat.mul_comm j n, Nat.mul_add_div hn, Nat.div_eq_of_lt hi, Nat.add_zero, Nat.mul_add_mod, Nat.mod_eq_of_lt hi, List.getElem?_eq_getElem hj]
  rw [getElem!_pos (y :: r) j hj] at hu
  exact hu
theorem SlV.elem {α : Type} {w : World} {B n : Nat} {cells : α → Array Value} {v : Value} {xs : List α} (hn : 0 < n) (hl : ∀ x, (cells x).toList.length = n) (h : SlV w B n cells v xs) {k : Nat} (hk : k < xs.length) :
  ∃ g o c, v = .slice (some ⟨g, o, none⟩) xs.length c ∧ xs.length ≤ c ∧ g < B ∧ w.rangeAt g (o + k * n) (cells xs[k]).toList := by
 obtain ⟨A, c, rfl, hle, A', c', e, _, _, _, h⟩ := h
 injection e with e1 e2 e3
 subst e1
 obtain ⟨g, o, rfl, hg, hc⟩ := h (by omega)
 refine ⟨g, o, c, rfl, hle, hg, fun i u hu => ?_⟩
 have hi : i < n := by
  rcases Nat.lt_or_ge i n with h' | h'
  ·exact h'
  ·rw [List.getElem?_eq_none (by rw [hl]; exact h')] at hu; cases hu
 rw [Nat.add_assoc]
 refine hc (k * n + i) u ?_
 rw [zGr (fun x => (cells x).toList) hn hl, Nat.mul_comm k n, Nat.mul_add_div hn, Nat.div_eq_of_lt hi, Nat.add_zero, Nat.mul_add_mod, Nat.mod_eq_of_lt hi, List.getElem?_eq_getElem hk]
 exact hu
def zAg (n lo hi : Int) : Bool := decide (lo ≤ n) && decide (n ≤ hi)
theorem zAr (n lo hi : Int) (w : World) : Calls Tryz.prog 64 #[.int .i64 n, .int .i64 lo, .int .i64 hi] w fun e w' => e = .returned (.bool (zAg n lo hi)) ∧ w = w' := by
 by_cases h1 : lo ≤ n
 ·have E : Hid (zAg n lo hi = decide (n ≤ hi)) := hid (by simp [zAg, h1])
  go_enter Tryz.func64, Tryz.ntmps64
  go_wp2_with fail
  all_goals (go_ret; exact ⟨zAd (by rw [E.out]; first | done | (simp; done) | (simp; omega)), rfl⟩)
 ·have E : Hid (zAg n lo hi = false) := hid (by simp [zAg, h1])
  go_enter Tryz.func64, Tryz.ntmps64
  go_wp2_with fail
  go_ret
  exact ⟨zAd E.out.symm, rfl⟩
theorem ixIf_zero (A : Option Addr) (c : Nat) (fv : Value) (w : World) : Calls Tryz.prog 161 #[.slice A 0 c, fv] w fun e w' => e = .returned (.int .i64 (-1)) ∧ w = w' := by
 go_enter Tryz.func161, Tryz.ntmps161
 go_wp2_with fail
 go_loopg [8] 1 (fun _ ix wr => ix = .int .i64 0 ∧ w = wr)
 case atStart => exact ⟨rfl, rfl⟩
 case round =>
  obtain ⟨rfl, rfl⟩ := hrel
  go_wp2_with fail
  go_ret
  exact ⟨rfl, rfl⟩
theorem Tryz.aggIf (w : World) : (isAgg 68).run Tryz.prog w = .ok true w := by kernel_rfl
theorem Tryz.szofIf (w : World) : (Go.sizeOf 68).run Tryz.prog w = .ok 12 w := by kernel_rfl
theorem predIf (name : List UInt8) (B : Nat) (w : World) (hB : B < w.heap.size) (hcell : w.cell? ⟨B, 0, none⟩ = some (.string (str name))) :
  PredBelow Tryz.prog 184 #[.pointer (some ⟨B, 0, none⟩)] (fun (x : If) => .agg x.C.toList.toArray) (fun x => x.name == name) w := fun W x hb => by
 have hc : W.cell? ⟨B, 0, none⟩ = some (.string (str name)) := (hb.cell (p := ⟨B, 0, none⟩) hB).trans hcell
 have hc2 : ∀ o, (W.alloc o).cell? ⟨B, 0, none⟩ = some (.string (str name)) := fun o => (World.cell?_alloc_lt W o ⟨B, 0, none⟩ (by show B < _; have := hb.size; omega)).trans hc
 have hb2 := hid (fun o => hb.alloc hb.size o)
 have E : Hid (((str x.name).toList == (str name).toList) = (x.name == name)) := hid (by rw [zAb, zAb])
 show Calls Tryz.prog 184 #[.agg x.C, .pointer (some ⟨B, 0, none⟩)] W _
 unfold If.C strV
 clear hcell hb hB
 go_enter Tryz.func184, Tryz.ntmps184
 go_wp2_with fail
 all_goals (go_ret; exact ⟨zAd (by rw [← E.out]; first | done | (simp_all; done)), hb2.out _⟩)
theorem zHc (r : Rt) (name : List UInt8) (w : World) (B : Nat) (h : r.at w B) (hB : B ≤ w.heap.size) : Calls Tryz.prog 119 #[.agg r.C, .string (str name)] w fun e w' => e = .returned (.int .i64 (idxF (fun x => x.name == name) r.ifs 0)) ∧ Below w.heap.size w w' := by
 have H0 := HasC.new w 41 r.C
 have H1 : HasC 41 w.heap.size r.C ((w.alloc (.cells r.C 41)).alloc (.cells #[.string (str name)] 9)) := H0.keep ((Below.refl _ _).alloc (Nat.le_refl _) _)
 have B0 := ((Below.refl w.heap.size w).alloc (Nat.le_refl _) (.cells r.C 41)).alloc (by simp) (.cells #[.string (str name)] 9)
 have c1 : ((w.alloc (.cells r.C 41)).alloc (.cells #[.string (str name)] 9)).cell? ⟨w.heap.size + 1, 0, none⟩ = some (.string (str name)) := by
  have := zDs (w.alloc (.cells r.C 41)) #[.string (str name)] 9 0
  rw [show (w.alloc (.cells r.C 41)).heap.size = w.heap.size + 1 from by simp] at this
  exact this
 have c0 : ((w.alloc (.cells r.C 41)).alloc (.cells #[.string (str name)] 9)).cell? ⟨w.heap.size, 2, none⟩ = some r.ifsV := H1.cell 2
 have hsz : ((w.alloc (.cells r.C 41)).alloc (.cells #[.string (str name)] 9)).heap.size = w.heap.size + 2 := by simp
 have HS := h.hifs.below (B0.mono hB)
 have K : Calls Tryz.prog 161 #[r.ifsV, .func (.func 184) #[] #[.pointer (some ⟨w.heap.size + 1, 0, none⟩)]] ((w.alloc (.cells r.C 41)).alloc (.cells #[.string (str name)] 9)) fun e w' => e = .returned (.int .i64 (idxF (fun x => x.name == name) r.ifs 0)) ∧ Below w.heap.size w w' := by
  rcases SlV.cells (n := 12) (by decide) (fun _ => rfl) HS with e | ⟨g, o, c, e, hg, hc⟩
  ·obtain ⟨A, c, e2, _⟩ := HS
   rw [e2, e]
   refine (ixIf_zero A c _ _).mono ?_
   rintro e w' ⟨rfl, rfl⟩
   exact ⟨rfl, B0⟩
  ·rw [e]
   have eg : ∀ args w, (callFunc 184 args).run Tryz.prog w = .ok (.enter 184 args) w := enters_of Tryz.func184 (by kernel_rfl) rfl
   have hm := HS.len
   refine (Tryz.slices_IndexFunc_f161 12 Tryz.aggIf Tryz.szofIf (fun (x : If) => x.C.toList) (fun _ => rfl) (fun x => x.name == name) 184 _ eg g o r.ifs.length c r.ifs _ (predIf name (w.heap.size + 1) _ (by rw [hsz]; omega) c1) (Nat.le_refl _) (by simp only [maxLen] at hm; omega) (by rw [hsz]; omega) hc).mono ?_
   rintro e w' ⟨rfl, hb⟩
   exact ⟨by rw [zGj], B0.trans (hb.mono B0.size)⟩
 have HK := hid K
 clear K HS H0 H1 h
 go_enter Tryz.func119, Tryz.ntmps119
 go_wp2_with fail
 refine HK.out.mono ?_
 rintro e w' ⟨rfl, hb⟩
 go_wp2_with fail
 go_ret
 exact ⟨rfl, hb⟩
theorem ixPList_zero (A : Option Addr) (c : Nat) (fv : Value) (w : World) : Calls Tryz.prog 188 #[.slice A 0 c, fv] w fun e w' => e = .returned (.int .i64 (-1)) ∧ w = w' := by
 go_enter Tryz.func188, Tryz.ntmps188
 go_wp2_with fail
 go_loopg [8] 1 (fun _ ix wr => ix = .int .i64 0 ∧ w = wr)
 case atStart => exact ⟨rfl, rfl⟩
 case round =>
  obtain ⟨rfl, rfl⟩ := hrel
  go_wp2_with fail
  go_ret
  exact ⟨rfl, rfl⟩
theorem Tryz.aggPList (w : World) : (isAgg 94).run Tryz.prog w = .ok true w := by kernel_rfl
theorem Tryz.szofPList (w : World) : (Go.sizeOf 94).run Tryz.prog w = .ok 2 w := by kernel_rfl
theorem predPList (name : List UInt8) (B : Nat) (w : World) (hB : B < w.heap.size) (hcell : w.cell? ⟨B, 0, none⟩ = some (.string (str name))) :
  PredBelow Tryz.prog 189 #[.pointer (some ⟨B, 0, none⟩)] (fun (x : PList) => .agg x.C.toList.toArray) (fun x => x.name == name) w := fun W x hb => by
 have hc : W.cell? ⟨B, 0, none⟩ = some (.string (str name)) := (hb.cell (p := ⟨B, 0, none⟩) hB).trans hcell
 have hc2 : ∀ o, (W.alloc o).cell? ⟨B, 0, none⟩ = some (.string (str name)) := fun o => (World.cell?_alloc_lt W o ⟨B, 0, none⟩ (by show B < _; have := hb.size; omega)).trans hc
 have hb2 := hid (fun o => hb.alloc hb.size o)
 have E : Hid (((str x.name).toList == (str name).toList) = (x.name == name)) := hid (by rw [zAb, zAb])
 show Calls Tryz.prog 189 #[.agg x.C, .pointer (some ⟨B, 0, none⟩)] W _
 unfold PList.C strV
 clear hcell hb hB
 go_enter Tryz.func189, Tryz.ntmps189
 go_wp2_with fail
 all_goals (go_ret; exact ⟨zAd (by rw [← E.out]; first | done | (simp_all; done)), hb2.out _⟩)
theorem zEb (r : Rt) (name : List UInt8) (w : World) (B : Nat) (h : r.at w B) (hB : B ≤ w.heap.size) : Calls Tryz.prog 124 #[.agg r.C, .string (str name)] w fun e w' => e = .returned (.int .i64 (idxF (fun x => x.name == name) r.lists 0)) ∧ Below w.heap.size w w' := by
 have H0 := HasC.new w 41 r.C
 have H1 : HasC 41 w.heap.size r.C ((w.alloc (.cells r.C 41)).alloc (.cells #[.string (str name)] 9)) := H0.keep ((Below.refl _ _).alloc (Nat.le_refl _) _)
 have B0 := ((Below.refl w.heap.size w).alloc (Nat.le_refl _) (.cells r.C 41)).alloc (by simp) (.cells #[.string (str name)] 9)
 have c1 : ((w.alloc (.cells r.C 41)).alloc (.cells #[.string (str name)] 9)).cell? ⟨w.heap.size + 1, 0, none⟩ = some (.string (str name)) := by
  have := zDs (w.alloc (.cells r.C 41)) #[.string (str name)] 9 0
  rw [show (w.alloc (.cells r.C 41)).heap.size = w.heap.size + 1 from by simp] at this
  exact this
 have c0 : ((w.alloc (.cells r.C 41)).alloc (.cells #[.string (str name)] 9)).cell? ⟨w.heap.size, 3, none⟩ = some r.listsV := H1.cell 3
 have hsz : ((w.alloc (.cells r.C 41)).alloc (.cells #[.string (str name)] 9)).heap.size = w.heap.size + 2 := by simp
 have HS := h.hlists.below (B0.mono hB)
 have K : Calls Tryz.prog 188 #[r.listsV, .func (.func 189) #[] #[.pointer (some ⟨w.heap.size + 1, 0, none⟩)]] ((w.alloc (.cells r.C 41)).alloc (.cells #[.string (str name)] 9)) fun e w' => e = .returned (.int .i64 (idxF (fun x => x.name == name) r.lists 0)) ∧ Below w.heap.size w w' := by
  rcases SlV.cells (n := 2) (by decide) (fun _ => rfl) HS with e | ⟨g, o, c, e, hg, hc⟩
  ·obtain ⟨A, c, e2, _⟩ := HS
   rw [e2, e]
   refine (ixPList_zero A c _ _).mono ?_
   rintro e w' ⟨rfl, rfl⟩
   exact ⟨rfl, B0⟩
  ·rw [e]
   have eg : ∀ args w, (callFunc 189 args).run Tryz.prog w = .ok (.enter 189 args) w := enters_of Tryz.func189 (by kernel_rfl) rfl
   have hm := HS.len
   refine (Tryz.slices_IndexFunc_f188 2 Tryz.aggPList Tryz.szofPList (fun (x : PList) => x.C.toList) (fun _ => rfl) (fun x => x.name == name) 189 _ eg g o r.lists.length c r.lists _ (predPList name (w.heap.size + 1) _ (by rw [hsz]; omega) c1) (Nat.le_refl _) (by simp only [maxLen] at hm; omega) (by rw [hsz]; omega) hc).mono ?_
   rintro e w' ⟨rfl, hb⟩
   exact ⟨by rw [zGj], B0.trans (hb.mono B0.size)⟩
 have HK := hid K
 clear K HS H0 H1 h
 go_enter Tryz.func124, Tryz.ntmps124
 go_wp2_with fail
 refine HK.out.mono ?_
 rintro e w' ⟨rfl, hb⟩
 go_wp2_with fail
 go_ret
 exact ⟨rfl, hb⟩
theorem ixRMap_zero (A : Option Addr) (c : Nat) (fv : Value) (w : World) : Calls Tryz.prog 190 #[.slice A 0 c, fv] w fun e w' => e = .returned (.int .i64 (-1)) ∧ w = w' := by
 go_enter Tryz.func190, Tryz.ntmps190
 go_wp2_with fail
 go_loopg [8] 1 (fun _ ix wr => ix = .int .i64 0 ∧ w = wr)
 case atStart => exact ⟨rfl, rfl⟩
 case round =>
  obtain ⟨rfl, rfl⟩ := hrel
  go_wp2_with fail
  go_ret
  exact ⟨rfl, rfl⟩
theorem Tryz.aggRMap (w : World) : (isAgg 99).run Tryz.prog w = .ok true w := by kernel_rfl
theorem Tryz.szofRMap (w : World) : (Go.sizeOf 99).run Tryz.prog w = .ok 2 w := by kernel_rfl
theorem predRMap (name : List UInt8) (B : Nat) (w : World) (hB : B < w.heap.size) (hcell : w.cell? ⟨B, 0, none⟩ = some (.string (str name))) :
  PredBelow Tryz.prog 191 #[.pointer (some ⟨B, 0, none⟩)] (fun (x : RMap) => .agg x.C.toList.toArray) (fun x => x.name == name) w := fun W x hb => by
 have hc : W.cell? ⟨B, 0, none⟩ = some (.string (str name)) := (hb.cell (p := ⟨B, 0, none⟩) hB).trans hcell
 have hc2 : ∀ o, (W.alloc o).cell? ⟨B, 0, none⟩ = some (.string (str name)) := fun o => (World.cell?_alloc_lt W o ⟨B, 0, none⟩ (by show B < _; have := hb.size; omega)).trans hc
 have hb2 := hid (fun o => hb.alloc hb.size o)
 have E : Hid (((str x.name).toList == (str name).toList) = (x.name == name)) := hid (by rw [zAb, zAb])
 show Calls Tryz.prog 191 #[.agg x.C, .pointer (some ⟨B, 0, none⟩)] W _
 unfold RMap.C strV
 clear hcell hb hB
 go_enter Tryz.func191, Tryz.ntmps191
 go_wp2_with fail
 all_goals (go_ret; exact ⟨zAd (by rw [← E.out]; first | done | (simp_all; done)), hb2.out _⟩)
theorem zFc (r : Rt) (name : List UInt8) (w : World) (B : Nat) (h : r.at w B) (hB : B ≤ w.heap.size) : Calls Tryz.prog 126 #[.agg r.C, .string (str name)] w fun e w' => e = .returned (.int .i64 (idxF (fun x => x.name == name) r.maps 0)) ∧ Below w.heap.size w w' := by
 have H0 := HasC.new w 41 r.C
 have H1 : HasC 41 w.heap.size r.C ((w.alloc (.cells r.C 41)).alloc (.cells #[.string (str name)] 9)) := H0.keep ((Below.refl _ _).alloc (Nat.le_refl _) _)
 have B0 := ((Below.refl w.heap.size w).alloc (Nat.le_refl _) (.cells r.C 41)).alloc (by simp) (.cells #[.string (str name)] 9)
 have c1 : ((w.alloc (.cells r.C 41)).alloc (.cells #[.string (str name)] 9)).cell? ⟨w.heap.size + 1, 0, none⟩ = some (.string (str name)) := by
  have := zDs (w.alloc (.cells r.C 41)) #[.string (str name)] 9 0
  rw [show (w.alloc (.cells r.C 41)).heap.size = w.heap.size + 1 from by simp] at this
  exact this
 have c0 : ((w.alloc (.cells r.C 41)).alloc (.cells #[.string (str name)] 9)).cell? ⟨w.heap.size, 4, none⟩ = some r.mapsV := H1.cell 4
 have hsz : ((w.alloc (.cells r.C 41)).alloc (.cells #[.string (str name)] 9)).heap.size = w.heap.size + 2 := by simp
 have HS := h.hmaps.below (B0.mono hB)
 have K : Calls Tryz.prog 190 #[r.mapsV, .func (.func 191) #[] #[.pointer (some ⟨w.heap.size + 1, 0, none⟩)]] ((w.alloc (.cells r.C 41)).alloc (.cells #[.string (str name)] 9)) fun e w' => e = .returned (.int .i64 (idxF (fun x => x.name == name) r.maps 0)) ∧ Below w.heap.size w w' := by
  rcases SlV.cells (n := 2) (by decide) (fun _ => rfl) HS with e | ⟨g, o, c, e, hg, hc⟩
  ·obtain ⟨A, c, e2, _⟩ := HS
   rw [e2, e]
   refine (ixRMap_zero A c _ _).mono ?_
   rintro e w' ⟨rfl, rfl⟩
   exact ⟨rfl, B0⟩
  ·rw [e]
   have eg : ∀ args w, (callFunc 191 args).run Tryz.prog w = .ok (.enter 191 args) w := enters_of Tryz.func191 (by kernel_rfl) rfl
   have hm := HS.len
   refine (Tryz.slices_IndexFunc_f190 2 Tryz.aggRMap Tryz.szofRMap (fun (x : RMap) => x.C.toList) (fun _ => rfl) (fun x => x.name == name) 191 _ eg g o r.maps.length c r.maps _ (predRMap name (w.heap.size + 1) _ (by rw [hsz]; omega) c1) (Nat.le_refl _) (by simp only [maxLen] at hm; omega) (by rw [hsz]; omega) hc).mono ?_
   rintro e w' ⟨rfl, hb⟩
   exact ⟨by rw [zGj], B0.trans (hb.mono B0.size)⟩
 have HK := hid K
 clear K HS H0 H1 h
 go_enter Tryz.func126, Tryz.ntmps126
 go_wp2_with fail
 refine HK.out.mono ?_
 rintro e w' ⟨rfl, hb⟩
 go_wp2_with fail
 go_ret
 exact ⟨rfl, hb⟩
theorem ixAList_zero (A : Option Addr) (c : Nat) (fv : Value) (w : World) : Calls Tryz.prog 192 #[.slice A 0 c, fv] w fun e w' => e = .returned (.int .i64 (-1)) ∧ w = w' := by
 go_enter Tryz.func192, Tryz.ntmps192
 go_wp2_with fail
 go_loopg [8] 1 (fun _ ix wr => ix = .int .i64 0 ∧ w = wr)
 case atStart => exact ⟨rfl, rfl⟩
 case round =>
  obtain ⟨rfl, rfl⟩ := hrel
  go_wp2_with fail
  go_ret
  exact ⟨rfl, rfl⟩
theorem Tryz.aggAList (w : World) : (isAgg 104).run Tryz.prog w = .ok true w := by kernel_rfl
theorem Tryz.szofAList (w : World) : (Go.sizeOf 104).run Tryz.prog w = .ok 2 w := by kernel_rfl
theorem predAList (name : List UInt8) (B : Nat) (w : World) (hB : B < w.heap.size) (hcell : w.cell? ⟨B, 0, none⟩ = some (.string (str name))) :
  PredBelow Tryz.prog 193 #[.pointer (some ⟨B, 0, none⟩)] (fun (x : AList) => .agg x.C.toList.toArray) (fun x => x.name == name) w := fun W x hb => by
 have hc : W.cell? ⟨B, 0, none⟩ = some (.string (str name)) := (hb.cell (p := ⟨B, 0, none⟩) hB).trans hcell
 have hc2 : ∀ o, (W.alloc o).cell? ⟨B, 0, none⟩ = some (.string (str name)) := fun o => (World.cell?_alloc_lt W o ⟨B, 0, none⟩ (by show B < _; have := hb.size; omega)).trans hc
 have hb2 := hid (fun o => hb.alloc hb.size o)
 have E : Hid (((str x.name).toList == (str name).toList) = (x.name == name)) := hid (by rw [zAb, zAb])
 show Calls Tryz.prog 193 #[.agg x.C, .pointer (some ⟨B, 0, none⟩)] W _
 unfold AList.C strV
 clear hcell hb hB
 go_enter Tryz.func193, Tryz.ntmps193
 go_wp2_with fail
 all_goals (go_ret; exact ⟨zAd (by rw [← E.out]; first | done | (simp_all; done)), hb2.out _⟩)
theorem aCL_any (r : Rt) (name : List UInt8) (w : World) (B : Nat) (h : r.at w B) (hB : B ≤ w.heap.size) : Calls Tryz.prog 128 #[.agg r.C, .string (str name)] w fun e w' => e = .returned (.int .i64 (idxF (fun x => x.name == name) r.acls 0)) ∧ Below w.heap.size w w' := by
 have H0 := HasC.new w 41 r.C
 have H1 : HasC 41 w.heap.size r.C ((w.alloc (.cells r.C 41)).alloc (.cells #[.string (str name)] 9)) := H0.keep ((Below.refl _ _).alloc (Nat.le_refl _) _)
 have B0 := ((Below.refl w.heap.size w).alloc (Nat.le_refl _) (.cells r.C 41)).alloc (by simp) (.cells #[.string (str name)] 9)
 have c1 : ((w.alloc (.cells r.C 41)).alloc (.cells #[.string (str name)] 9)).cell? ⟨w.heap.size + 1, 0, none⟩ = some (.string (str name)) := by
  have := zDs (w.alloc (.cells r.C 41)) #[.string (str name)] 9 0
  rw [show (w.alloc (.cells r.C 41)).heap.size = w.heap.size + 1 from by simp] at this
  exact this
 have c0 : ((w.alloc (.cells r.C 41)).alloc (.cells #[.string (str name)] 9)).cell? ⟨w.heap.size, 5, none⟩ = some r.aclsV := H1.cell 5
 have hsz : ((w.alloc (.cells r.C 41)).alloc (.cells #[.string (str name)] 9)).heap.size = w.heap.size + 2 := by simp
 have HS := h.hacls.below (B0.mono hB)
 have K : Calls Tryz.prog 192 #[r.aclsV, .func (.func 193) #[] #[.pointer (some ⟨w.heap.size + 1, 0, none⟩)]] ((w.alloc (.cells r.C 41)).alloc (.cells #[.string (str name)] 9)) fun e w' => e = .returned (.int .i64 (idxF (fun x => x.name == name) r.acls 0)) ∧ Below w.heap.size w w' := by
  rcases SlV.cells (n := 2) (by decide) (fun _ => rfl) HS with e | ⟨g, o, c, e, hg, hc⟩
  ·obtain ⟨A, c, e2, _⟩ := HS
   rw [e2, e]
   refine (ixAList_zero A c _ _).mono ?_
   rintro e w' ⟨rfl, rfl⟩
   exact ⟨rfl, B0⟩
  ·rw [e]
   have eg : ∀ args w, (callFunc 193 args).run Tryz.prog w = .ok (.enter 193 args) w := enters_of Tryz.func193 (by kernel_rfl) rfl
   have hm := HS.len
   refine (Tryz.slices_IndexFunc_f192 2 Tryz.aggAList Tryz.szofAList (fun (x : AList) => x.C.toList) (fun _ => rfl) (fun x => x.name == name) 193 _ eg g o r.acls.length c r.acls _ (predAList name (w.heap.size + 1) _ (by rw [hsz]; omega) c1) (Nat.le_refl _) (by simp only [maxLen] at hm; omega) (by rw [hsz]; omega) hc).mono ?_
   rintro e w' ⟨rfl, hb⟩
   exact ⟨by rw [zGj], B0.trans (hb.mono B0.size)⟩
 have HK := hid K
 clear K HS H0 H1 h
 go_enter Tryz.func128, Tryz.ntmps128
 go_wp2_with fail
 refine HK.out.mono ?_
 rintro e w' ⟨rfl, hb⟩
 go_wp2_with fail
 go_ret
 exact ⟨rfl, hb⟩
def hasA (a : Nat) (x : If) : Bool := !(x.len == 0) && x.addr == a
theorem predAdr (adr : Nat) (B : Nat) (w : World) (hB : B < w.heap.size) (hcell : w.cell? ⟨B, 0, none⟩ = some (.int .u32 (adr : Int))) :
  PredBelow Tryz.prog 234 #[.pointer (some ⟨B, 0, none⟩)] (fun (x : If) => .agg x.C.toList.toArray) (hasA adr) w := fun W x hb => by
 have hc : W.cell? ⟨B, 0, none⟩ = some (.int .u32 (adr : Int)) := (hb.cell (p := ⟨B, 0, none⟩) hB).trans hcell
 have hc2 : ∀ o, (W.alloc o).cell? ⟨B, 0, none⟩ = some (.int .u32 (adr : Int)) := fun o => (World.cell?_alloc_lt W o ⟨B, 0, none⟩ (by show B < _; have := hb.size; omega)).trans hc
 have hb2 := hid (fun o => hb.alloc hb.size o)
 have E : Hid (hasA adr x = (!(x.len == 0) && x.addr == adr)) := hid rfl
 show Calls Tryz.prog 234 #[.agg x.C, .pointer (some ⟨B, 0, none⟩)] W _
 obtain ⟨name, addr, len, vlan, down, ls, area, cost, dv, inn, out, side⟩ := x
 unfold If.C strV
 dsimp only at E ⊢
 clear hcell hb hB
 by_cases h1 : len = 0
 ·subst h1
  go_enter Tryz.func234, Tryz.ntmps234
  go_wp2_with fail
  go_ret
  exact ⟨zAd (by rw [E.out]; rfl), hb2.out _⟩
 ·have d1 : (len != 0) = true := by simpa using h1
  have d2 : (len == 0) = false := by simpa using h1
  have d3 : ((addr : Int) == (adr : Int)) = (addr == adr) := by rw [Bool.eq_iff_iff]; simp; omega
  go_enter Tryz.func234, Tryz.ntmps234
  go_wp2_with fail
  go_ret
  exact ⟨zAd (by rw [E.out, d2, ← d3]; first | rfl | (simp; done)), hb2.out _⟩
theorem address_any (r : Rt) (adr : Nat) (w : World) (B : Nat) (h : r.at w B) (hB : B ≤ w.heap.size) : Calls Tryz.prog 195 #[.agg r.C, .int .u32 (adr : Int)] w fun e w' => e = .returned (.int .i64 (idxF (hasA adr) r.ifs 0)) ∧ Below w.heap.size w w' := by
 have H0 := HasC.new w 41 r.C
 have H1 : HasC 41 w.heap.size r.C ((w.alloc (.cells r.C 41)).alloc (.cells #[.int .u32 (adr : Int)] 66)) := H0.keep ((Below.refl _ _).alloc (Nat.le_refl _) _)
 have B0 := ((Below.refl w.heap.size w).alloc (Nat.le_refl _) (.cells r.C 41)).alloc (by simp) (.cells #[.int .u32 (adr : Int)] 66)
 have c1 : ((w.alloc (.cells r.C 41)).alloc (.cells #[.int .u32 (adr : Int)] 66)).cell? ⟨w.heap.size + 1, 0, none⟩ = some (.int .u32 (adr : Int)) := by
  have := zDs (w.alloc (.cells r.C 41)) #[.int .u32 (adr : Int)] 66 0
  rw [show (w.alloc (.cells r.C 41)).heap.size = w.heap.size + 1 from by simp] at this
  exact this
 have c0 : ((w.alloc (.cells r.C 41)).alloc (.cells #[.int .u32 (adr : Int)] 66)).cell? ⟨w.heap.size, 2, none⟩ = some r.ifsV := H1.cell 2
 have hsz : ((w.alloc (.cells r.C 41)).alloc (.cells #[.int .u32 (adr : Int)] 66)).heap.size = w.heap.size + 2 := by simp
 have HS := h.hifs.below (B0.mono hB)
 have K : Calls Tryz.prog 161 #[r.ifsV, .func (.func 234) #[] #[.pointer (some ⟨w.heap.size + 1, 0, none⟩)]] ((w.alloc (.cells r.C 41)).alloc (.cells #[.int .u32 (adr : Int)] 66)) fun e w' => e = .returned (.int .i64 (idxF (hasA adr) r.ifs 0)) ∧ Below w.heap.size w w' := by
  rcases SlV.cells (n := 12) (by decide) (fun _ => rfl) HS with e | ⟨g, o, c, e, hg, hc⟩
  ·obtain ⟨A, c, e2, _⟩ := HS
   rw [e2, e]
   refine (ixIf_zero A c _ _).mono ?_
   rintro e w' ⟨rfl, rfl⟩
   exact ⟨rfl, B0⟩
  ·rw [e]
   have eg : ∀ args w, (callFunc 234 args).run Tryz.prog w = .ok (.enter 234 args) w := enters_of Tryz.func234 (by kernel_rfl) rfl
   have hm := HS.len
   refine (Tryz.slices_IndexFunc_f161 12 Tryz.aggIf Tryz.szofIf (fun (x : If) => x.C.toList) (fun _ => rfl) (hasA adr) 234 _ eg g o r.ifs.length c r.ifs _ (predAdr adr (w.heap.size + 1) _ (by rw [hsz]; omega) c1) (Nat.le_refl _) (by simp only [maxLen] at hm; omega) (by rw [hsz]; omega) hc).mono ?_
   rintro e w' ⟨rfl, hb⟩
   exact ⟨by rw [zGj], B0.trans (hb.mono B0.size)⟩
 have HK := hid K
 clear K HS H0 H1 h
 go_enter Tryz.func195, Tryz.ntmps195
 go_wp2_with fail
 refine HK.out.mono ?_
 rintro e w' ⟨rfl, hb⟩
 go_wp2_with fail
 go_ret
 exact ⟨rfl, hb⟩
end Go.Proofs.YtoceoaiokkbjeaaGreatDoor
