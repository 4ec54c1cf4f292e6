/- What a valid router's sections say, element by element. No condition. -/
import Derived.Test.YtoceoaiokkbjeaaGreatDoorWal
set_option maxRecDepth 8000
namespace Go.Proofs.YtoceoaiokkbjeaaGreatDoor
open Lib (hid)
open Go.RowKit
theorem zCg (n lo hi : Int) (w : World) : Calls Tryz.prog 20 #[.int .i64 n, .int .i64 lo, .int .i64 hi] w fun e w' => e = .returned (.bool (zAg n lo hi)) ∧ w = w' := by
 by_cases h1 : lo ≤ n
 ·have E : Hid (zAg n lo hi = decide (n ≤ hi)) := hid (by simp [zAg, h1])
  go_enter Tryz.func20, Tryz.ntmps20
  go_wp2_with fail
  go_ret
  exact ⟨zAd E.out.symm, rfl⟩
 ·have E : Hid (zAg n lo hi = false) := hid (by simp [zAg, h1])
  go_enter Tryz.func20, Tryz.ntmps20
  go_wp2_with fail
  go_ret
  exact ⟨zAd E.out.symm, rfl⟩
theorem idxF_at {α : Type} {p : α → Bool} {l : List α} {k : Nat} (h : k < l.length) {R : Int} (hR : idxF p (l.drop k) k = R) : R = if p l[k] then (k : Int) else idxF p (l.drop (k + 1)) (k + 1) := by
 rw [zIm h, idxF] at hR; exact hR.symm
abbrev LookSt (F : Nat) {α : Type} (nm : α → List UInt8) (L : Rt → List α) : Prop := ∀ (r : Rt) (name : List UInt8) (w : World) (B : Nat), r.at w B → B ≤ w.heap.size →
 Calls Tryz.prog F #[.agg r.C, .string (str name)] w fun e w' => e = .returned (.int .i64 (idxF (fun x => nm x == name) (L r) 0)) ∧ Below w.heap.size w w'
abbrev LookK {α : Type} (j n : Nat) (C : α → Array Value) (nm : α → List UInt8) (V : Rt → Value) (L : Rt → List α) : Prop :=
 (∀ r : Rt, r.C[j]? = some (V r)) ∧ (∀ x, (C x).toList.length = n) ∧ (∀ x, (C x).toList[0]? = some (.string (str (nm x)))) ∧ ∀ (r : Rt) (w : World) (B : Nat), r.at w B → SlV w B n C (V r) (L r)
abbrev LookG (j n F : Nat) : Prop := ∀ {α : Type} (nm : α → List UInt8) (L : Rt → List α) (V : Rt → Value) (C : α → Array Value), LookK j n C nm V L → LookSt F nm L
set_option maxHeartbeats 8000000 in
theorem rlook_all : (Tryz.prog.funcs[48]? = some Tryz.f48 → LookG 3 2 48) ∧ (Tryz.prog.funcs[93]? = some Tryz.f93 → LookG 4 2 93) ∧ (Tryz.prog.funcs[50]? = some Tryz.f50 → LookG 5 2 50) ∧ (Tryz.prog.funcs[53]? = some Tryz.f53 → LookG 2 12 53) := by
 refine ⟨?_, ?_, ?_, ?_⟩
 all_goals
  intro hf α nm L V C ⟨hJ, hC, hN, hA⟩ r name w B h hB
  obtain ⟨A, c, hv, hle, -⟩ := hA r w B h
  have H0 := hid (HasC.new w 41 r.C)
  have B0 : Below w.heap.size w (w.alloc (.cells r.C 41)) := (Below.refl _ w).alloc (Nat.le_refl _) _
  have HV := hid hv
  have c2 := (H0.out.cell _).trans (hJ r)
  rw [hv] at c2
  have SV := hid ((hA r w B h).below (B0.mono hB))
  have hlm : (L r).length ≤ 9223372036854775807 := by have := SV.out.len; simp only [maxLen] at this; omega
  generalize L r = l at *
  obtain ⟨R, hR⟩ : ∃ R, idxF (fun x => nm x == name) l 0 = R := ⟨_, rfl⟩
  rw [hR]
  have E := hid hR
  have HN := hid hN
  have HC := hid hC
  have B0 := hid B0
  clear h hB hv hA hJ hR hN hC
  refine calls_of_wp hf rfl ?_; clear hf; simp only [Tryz.ntmps48, Tryz.ntmps93, Tryz.ntmps50, Tryz.ntmps53, List.size_toArray, List.length_cons, List.length_nil, Nat.reduceAdd, Nat.reduceSub, Array.replicate_succ, Array.replicate_zero, List.push_toArray, List.append_toArray, List.nil_append, List.cons_append]
  go_upto_region 1 with (fail)
  change Code.wp _ _ _ _ (w.alloc (.cells r.C 41))
  generalize w.alloc (.cells r.C 41) = wA at H0 B0 SV c2 ⊢
  go_wp2_with fail
  go_loopg [5] l.length (fun gh ix wr => wr = wA ∧ ∃ k : Nat, k + gh = l.length ∧ ix = .int .i64 k ∧ Hid (idxF (fun x => nm x == name) (l.drop k) k = R))
  case atStart => exact ⟨rfl, 0, by omega, rfl, E⟩
  case round =>
   obtain ⟨rfl, k, hk, rfl, E⟩ := hrel
   by_cases hlt : k < l.length
   ·have E2 := hid (idxF_at hlt E.out)
    obtain ⟨g, o, c', e', -, hg, R0⟩ := SV.out.elem (by decide) HC.out hlt
    rw [HV.out] at e'
    injection e' with e1 e2 e3
    subst e1 e3
    have c4 := R0 0 _ (HN.out _)
    generalize l[k] = x at E2 R0 c4
    clear R0 E e2
    rw [Nat.add_zero] at c4
    have hlz : (k : Int) < (l.length : Int) := by omega
    have hs : ((str (nm x)).toList == (str name).toList) = (nm x == name) := by rw [zAb, zAb]
    cases hq : nm x == name with
    | true =>
     rw [hq] at hs
     go_wp2_with fail
     go_ret
     exact ⟨zAf (by rw [E2.out, hq]; rfl), B0.out⟩
    | false =>
     rw [hq] at hs
     go_wp2_with fail
     go_roundg (l.length - (k + 1))
     case measure => omega
     case rel => exact ⟨rfl, k + 1, by omega, by go_num, hid (by rw [E2.out, hq]; rfl)⟩
   ·have hlz : ¬ (k : Int) < (l.length : Int) := by omega
    have E2 := hid (idxF_end hlt E.out)
    go_wp2_with fail
    go_ret
    exact ⟨zAf E2.out.symm, B0.out⟩
theorem zEz : LookSt 48 (·.name) (fun r => r.lists) := rlook_all.1 Tryz.func48 _ _ (fun r => r.listsV) PList.C ⟨fun _ => rfl, fun _ => rfl, fun _ => rfl, fun _ _ _ h => h.hlists⟩
theorem zGv : LookSt 93 (·.name) (fun r => r.maps) := rlook_all.2.1 Tryz.func93 _ _ (fun r => r.mapsV) RMap.C ⟨fun _ => rfl, fun _ => rfl, fun _ => rfl, fun _ _ _ h => h.hmaps⟩
theorem zEy : LookSt 50 (·.name) (fun r => r.acls) := rlook_all.2.2.1 Tryz.func50 _ _ (fun r => r.aclsV) AList.C ⟨fun _ => rfl, fun _ => rfl, fun _ => rfl, fun _ _ _ h => h.hacls⟩
theorem rlookIf_any : LookSt 53 (·.name) (fun r => r.ifs) := rlook_all.2.2.2 Tryz.func53 _ _ (fun r => r.ifsV) If.C ⟨fun _ => rfl, fun _ => rfl, fun _ => rfl, fun _ _ _ h => h.hifs⟩
end Go.Proofs.YtoceoaiokkbjeaaGreatDoor
namespace Go.Proofs.YtoceoaiokkbjeaaGreatDoor
open Lib (hid)
theorem go_ok {n : Nat} {G : Nat → Int} {P : (k : Nat) → k < n → Prop} (hs : ∀ k (h : k < n), G k = 0 → P k h ∧ G (k + 1) = 0) (h0 : G 0 = 0) : ∀ k (h : k < n), P k h := by
 have hg : ∀ k, k ≤ n → G k = 0 := by
  intro k
  induction k with
  | zero => exact fun _ => h0
  | succ k ih => exact fun h => (hs k h (ih (Nat.le_of_succ_le h))).2
 exact fun k h => (hs k h (hg k (Nat.le_of_lt h))).1
theorem take_any {α : Type} {l : List α} {p : α → Bool} {k : Nat} (h : ¬ (l.take k).any p = true) (j : Nat) (hjn : j < l.length) (hj : j < k) : p l[j] = false := by
 cases hp : p l[j] with
 | false => rfl
 | true => exact absurd (List.any_eq_true.2 ⟨l[j], List.mem_take_iff_getElem.2 ⟨j, by omega, rfl⟩, hp⟩) h
theorem idxF_ge {α : Type} {p : α → Bool} : ∀ {l : List α} {i k : Nat}, ¬ idxF p l i < k → ∀ j (hj : j < l.length), i + j < k → p l[j] = false
 | [], _, _, _, _, hj, _ => absurd hj (Nat.not_lt_zero _)
 | y :: r, i, k, h, j, hj, hk => by
  unfold idxF at h
  cases hp : p y with
  | true => rw [if_pos hp] at h; exact absurd (show (i : Int) < k by omega) h
  | false =>
   rw [if_neg (by rw [hp]; decide)] at h
   match j, hj with
   | 0, _ => exact hp
   | j + 1, hj => exact idxF_ge (l := r) h j (by simpa using hj) (by omega)
theorem zGu {β : Type} {f : β → Int} : ∀ {l : List β}, zAp f l = 0 → ∀ x ∈ l, f x = 0
 | [], _, _, h => by cases h
 | y :: r, h, x, hx => by
  unfold zAp at h
  by_cases h0 : f y = 0
  ·rw [if_pos h0] at h
   rcases List.mem_cons.1 hx with rfl | hx
   ·exact h0
   ·exact zGu h x hx
  ·rw [if_neg h0] at h
   exact absurd h h0
theorem ifs_ok {l : List If} (h : ifsE l = 0) : l.length ≤ 8 ∧ ∀ k (hk : k < l.length), nameB l[k].name = true ∧ (∀ j (hj : j < l.length), j < k → (l[j].name == l[k].name) = false) ∧ zGf l[k] = true ∧ ∀ j (hj : j < l.length), j < k → zDy l[k] l[j] = false := by
 unfold ifsE at h
 by_cases h8 : 8 < l.length
 ·rw [if_pos h8] at h; cases h
 rw [if_neg h8] at h
 refine ⟨by omega, go_ok (G := fun k => ifsGo l (l.drop k) k) (fun k hk h => ?_) h⟩
 have h2 := ifsGo_at hk h
 cases hn : nameB l[k].name with
 | false => rw [hn] at h2; cases h2
 | true =>
 rw [hn] at h2
 simp only [Bool.not_true, Bool.false_eq_true, if_false] at h2
 by_cases h3 : idxF (fun y => y.name == l[k].name) l 0 < k
 ·rw [if_pos h3] at h2; cases h2
 rw [if_neg h3] at h2
 cases hr : zGf l[k] with
 | false => rw [hr] at h2; cases h2
 | true =>
 rw [hr] at h2
 simp only [Bool.not_true, Bool.false_eq_true, if_false] at h2
 by_cases h4 : (l.take k).any (zDy l[k]) = true
 ·rw [if_pos h4] at h2; cases h2
 rw [if_neg h4] at h2
 exact ⟨⟨rfl, fun j hj hjk => idxF_ge h3 j hj (by omega), rfl, take_any h4⟩, h2.symm⟩
theorem listE_ok {k first size most : Int} {name : List UInt8} (h : listE k first name size most = 0) : nameB name = true ∧ ¬ first < k ∧ size ≠ 0 ∧ size ≤ most := by
 unfold listE at h
 cases hn : nameB name with
 | false => rw [hn] at h; cases h
 | true =>
 rw [hn] at h
 simp only [Bool.not_true, Bool.false_eq_true, if_false] at h
 by_cases h1 : first < k
 ·rw [if_pos h1] at h; cases h
 by_cases h2 : size = 0
 ·rw [if_neg h1, if_pos h2] at h; cases h
 by_cases h3 : most < size
 ·rw [if_neg h1, if_neg h2, if_pos h3] at h; cases h
 exact ⟨rfl, h1, h2, by omega⟩
theorem ls_ok {α : Type} {name : α → List UInt8} {len : α → Nat} {inner : α → Int} {most : Int} {l : List α} (h : lsE name len inner most l = 0) : l.length ≤ 8 ∧ ∀ k (hk : k < l.length), nameB (name l[k]) = true ∧ (∀ j (hj : j < l.length), j < k → (name l[j] == name l[k]) = false) ∧ (len l[k] : Int) ≠ 0 ∧ (len l[k] : Int) ≤ most ∧ inner l[k] = 0 := by
 unfold lsE at h
 by_cases h8 : 8 < l.length
 ·rw [if_pos h8] at h; cases h
 rw [if_neg h8] at h
 refine ⟨by omega, go_ok (G := fun k => lsGo name len inner most l (l.drop k) k) (fun k hk h => ?_) h⟩
 have h2 := lsGo_at hk h
 by_cases h3 : listE k (idxF (fun y => name y == name l[k]) l 0) (name l[k]) (len l[k]) most = 0
 ·rw [if_pos h3] at h2
  obtain ⟨e1, e2, e3, e4⟩ := listE_ok h3
  by_cases h4 : inner l[k] = 0
  ·rw [if_pos h4] at h2
   exact ⟨⟨e1, fun j hj hjk => idxF_ge e2 j hj (by omega), e3, e4, h4⟩, h2.symm⟩
  ·rw [if_neg h4] at h2; exact absurd h2.symm h4
 ·rw [if_neg h3] at h2; exact absurd h2.symm h3
theorem zGy {α : Type} {most : Nat} {f : α → Int} {c : α → α → Bool} {err : Int} {l : List α} (he : err ≠ 0) (h : pairE most f c err l = 0) : l.length ≤ most ∧ ∀ k (hk : k < l.length), f l[k] = 0 ∧ ∀ j (hj : j < l.length), j < k → c l[k] l[j] = false := by
 unfold pairE at h
 by_cases h8 : most < l.length
 ·rw [if_pos h8] at h; cases h
 rw [if_neg h8] at h
 refine ⟨by omega, go_ok (G := fun k => zBm f c err l (l.drop k) k) (fun k hk h => ?_) h⟩
 have h2 := zFd hk h
 by_cases h3 : f l[k] = 0
 ·rw [if_pos h3] at h2
  by_cases h4 : (l.take k).any (c l[k]) = true
  ·rw [if_pos h4] at h2; exact absurd h2.symm he
  ·rw [if_neg h4] at h2
   exact ⟨⟨h3, take_any h4⟩, h2.symm⟩
 ·rw [if_neg h3] at h2; exact absurd h2.symm h3
theorem zGp {a b : Int} (h : (if a = 0 then b else a) = 0) : a = 0 ∧ b = 0 := by
 by_cases h0 : a = 0
 ·rw [if_pos h0] at h; exact ⟨h0, h⟩
 ·rw [if_neg h0] at h; exact absurd h h0
theorem router_ok {r : Rt} (h : zDv r = 0) : nameB r.name = true ∧ zAg r.asn 0 65535 = true ∧ ifsE r.ifs = 0 ∧ plsE r.lists = 0 ∧ mapsE r.lists r.maps = 0 ∧ aclsE r.acls = 0 ∧ natsE r.acls r.nat = 0 ∧ zAp (filtE r.acls) r.ifs = 0 ∧ statsE r.ifs r.stat = 0 ∧ lnkE r = 0 ∧ dvE r = 0 ∧ pvE r = 0 := by
 unfold zDv at h
 cases hn : nameB r.name with
 | false => rw [hn] at h; cases h
 | true =>
 rw [hn] at h
 simp only [Bool.not_true, Bool.false_eq_true, if_false] at h
 cases hw : zAg r.asn 0 65535 with
 | false => rw [hw] at h; cases h
 | true =>
 rw [hw] at h
 simp only [Bool.not_true, Bool.false_eq_true, if_false] at h
 have hf := zGu h
 unfold secsE at hf
 simpa using hf
end Go.Proofs.YtoceoaiokkbjeaaGreatDoor
