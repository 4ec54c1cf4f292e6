/- Plain: in a network without errors query.Resolve and the reference's answer alike. No condition. -/
import Derived.Test.YtnhemjdmleilcaaGreatDoorModYr
namespace Go.Proofs.YtnhemjdmleilcaaGreatDoor
open Go.RowKit

theorem idxF_spec {α : Type} (p : α → Bool) : ∀ (l : List α) (i : Nat), (idxF p l i = -1 ∧ ∀ x ∈ l, p x = false) ∨ ∃ (k : Nat) (h : k < l.length), idxF p l i = ((i + k : Nat) : Int) ∧ p l[k] = true ∧ ∀ (j : Nat) (hj : j < k), p (l[j]'(by omega)) = false
  | [], i => .inl ⟨rfl, fun x hx => by cases hx⟩
  | y :: r, i => by
    cases hy : p y with
    | true =>
      exact .inr ⟨0, by simp, by simp [idxF, hy], hy, fun j hj => absurd hj (by omega)⟩
    | false =>
      have e : idxF p (y :: r) i = idxF p r (i + 1) := by simp [idxF, hy]
      rcases idxF_spec p r (i + 1) with ⟨h1, h2⟩ | ⟨k, hk, h1, h2, h3⟩
      · refine .inl ⟨e.trans h1, fun x hx => ?_⟩
        rcases List.mem_cons.1 hx with rfl | hx
        · exact hy
        · exact h2 x hx
      · refine .inr ⟨k + 1, by simpa using hk, by rw [e, h1]; congr 1; omega, by simpa using h2, fun j hj => ?_⟩
        cases j with
        | zero => exact hy
        | succ j => exact h3 j (by omega)
theorem pairGo_zero {α : Type} {f : α → Int} {c : α → α → Bool} {err : Int} {all : List α} (he : err ≠ 0) : ∀ (l : List α) (k : Nat), pairGo f c err all l k = 0 → ∀ x ∈ l, f x = 0
  | [], _, _, x, hx => by cases hx
  | y :: r, k, h, x, hx => by
    unfold pairGo at h
    split at h
    case isFalse h1 => exact absurd h h1
    case isTrue h1 =>
      split at h
      · exact absurd h he
      · rcases List.mem_cons.1 hx with rfl | hx
        · exact h1
        · exact pairGo_zero he r (k + 1) h x hx
theorem routerE_ifs {r : Rt} (h : routerE r = 0) : ifsE r.ifs = 0 := by
  unfold routerE at h
  split at h
  · exact absurd h (by decide)
  split at h
  · exact absurd h (by decide)
  unfold secsE firstE at h
  split at h
  · assumption
  · rename_i h1; exact absurd h h1
theorem check_ifs {rs : List Rt} (h : checkE rs = 0) : ∀ r ∈ rs, ifsE r.ifs = 0 := by
  unfold checkE pairE at h
  split at h
  · exact absurd h (by decide)
  · exact fun r hr => routerE_ifs (pairGo_zero (by decide) rs 0 h r hr)
theorem ifsGo_zero {all : List If} : ∀ (n k : Nat), k + n = all.length → ifsGo all (all.drop k) k = 0 → ∀ (j : Nat) (hj : j < all.length), k ≤ j → (j : Int) ≤ idxF (fun y => y.name == all[j].name) all 0 ∧ rightIf all[j] = true
  | 0, k, hk, _, j, hj, hkj => absurd hj (by omega)
  | n + 1, k, hk, h, j, hj, hkj => by
    have hlt : k < all.length := by omega
    have hat := ifsGo_at hlt h
    split at hat
    · exact absurd hat (by decide)
    split at hat
    · exact absurd hat (by decide)
    rename_i h2
    split at hat
    · exact absurd hat (by decide)
    rename_i h3
    split at hat
    · exact absurd hat (by decide)
    rcases Nat.lt_or_eq_of_le hkj with h5 | h5
    · exact ifsGo_zero n (k + 1) (by omega) hat.symm j hj h5
    · subst h5
      exact ⟨Int.not_lt.1 h2, by simpa using h3⟩
theorem ifsE_zero {l : List If} (h : ifsE l = 0) : l.length ≤ 8 ∧ ∀ (j : Nat) (hj : j < l.length), (j : Int) ≤ idxF (fun y => y.name == l[j].name) l 0 ∧ 0 ≤ l[j].len := by
  unfold ifsE at h
  split at h
  · exact absurd h (by decide)
  rename_i h8
  refine ⟨by omega, fun j hj => ?_⟩
  obtain ⟨h1, h2⟩ := ifsGo_zero l.length 0 (by simp) (by simpa using h) j hj (Nat.zero_le _)
  refine ⟨h1, ?_⟩
  unfold rightIf at h2
  simp only [Bool.and_eq_true] at h2
  have := h2.1.1.1.1.1
  unfold withinB at this
  simp only [Bool.and_eq_true, decide_eq_true_eq] at this
  exact this.1
/-- In a list without errors the first interface with a name is the only one. -/
theorem up_idx {l : List If} (h : ifsE l = 0) (f : List UInt8) :
    (idxF (fun x => x.name == f) l 0 < 0 ∧ idxF (upI f) l 0 < 0) ∨ ∃ (k : Nat) (hk : k < l.length), idxF (fun x => x.name == f) l 0 = (k : Int) ∧ ((!(l[k].len == 0) && !l[k].down) = true ∧ idxF (upI f) l 0 = (k : Int) ∨ (!(l[k].len == 0) && !l[k].down) = false ∧ idxF (upI f) l 0 < 0) := by
  obtain ⟨-, hz⟩ := ifsE_zero h
  rcases idxF_spec (fun x : If => x.name == f) l 0 with ⟨h1, h2⟩ | ⟨k, hk, h1, h2, h3⟩
  · left
    refine ⟨by rw [h1]; decide, ?_⟩
    rcases idxF_spec (upI f) l 0 with ⟨h4, _⟩ | ⟨j, hj, h4, h5, _⟩
    · rw [h4]; decide
    · exfalso
      have := h2 l[j] (List.getElem_mem hj)
      unfold upI at h5
      rw [this] at h5
      exact absurd h5 (by simp)
  · right
    have only : ∀ (j : Nat) (hj : j < l.length), (l[j].name == f) = true → j = k := by
      intro j hj hn
      have hn' : l[j].name = f := by simpa using hn
      have := (hz j hj).1
      rw [hn', h1] at this
      rcases Nat.lt_trichotomy j k with hlt | heq | hgt
      · have := h3 j hlt; rw [hn] at this; cases this
      · exact heq
      · omega
    refine ⟨k, hk, by rw [h1]; simp, ?_⟩
    have hl0 := (hz k hk).2
    have hd : (!(l[k].len == 0)) = decide (0 < l[k].len) := by
      rw [Bool.eq_iff_iff]; simp; omega
    rcases idxF_spec (upI f) l 0 with ⟨h4, h5⟩ | ⟨j, hj, h4, h5, h6⟩
    · right
      refine ⟨?_, by rw [h4]; decide⟩
      have := h5 l[k] (List.getElem_mem hk)
      unfold upI at this
      rw [h2] at this
      rw [hd]
      simpa using this
    · left
      have hu := h5
      unfold upI at hu
      simp only [Bool.and_eq_true] at hu
      obtain rfl := only j hj hu.1.1
      refine ⟨?_, by rw [h4]; simp⟩
      rw [hd]
      simp only [Bool.and_eq_true]
      exact ⟨hu.1.2, hu.2⟩
theorem end_place {rs : List Rt} (h : checkE rs = 0) {n f : List UInt8} (hn : n.isEmpty = false) : (endV rs n f).2.2 = (placeV rs n f).2.2 ∧ ((endV rs n f).2.2 = true → endV rs n f = placeV rs n f) := by
  unfold endV placeV
  rw [hn]
  simp only [Bool.false_eq_true, if_false]
  by_cases hr : rtIdx rs n < 0
  · rw [if_pos hr, if_pos hr]; exact ⟨rfl, fun h => by cases h⟩
  rw [if_neg hr, if_neg hr]
  cases hf : f.isEmpty with
  | true => exact ⟨rfl, fun _ => rfl⟩
  | false =>
  simp only [Bool.false_eq_true, if_false]
  obtain ⟨k, hk, hk1, hk2⟩ := rtIdx_nat hr
  have hi := check_ifs h rs[k] (List.getElem_mem hk)
  have e1 : ifIdx rs n f = idxF (fun x => x.name == f) rs[k].ifs 0 := by unfold ifIdx; rw [hk2]
  have e2 : ifsAt rs n = rs[k].ifs := by unfold ifsAt; rw [hk2]
  rw [e2]
  rcases up_idx hi f with ⟨h1, h2⟩ | ⟨i, hil, h1, h2⟩
  · rw [if_pos (by rw [e1]; exact h1), if_pos h2]; exact ⟨rfl, fun h => by cases h⟩
  · have hneg : ¬ ifIdx rs n f < 0 := by rw [e1, h1]; omega
    obtain ⟨i', hil', hi1, hi2⟩ := ifIdx_nat (hk := hk) hk2 hneg
    have : i' = i := by rw [e1, h1] at hi1; omega
    subst this
    rw [if_neg hneg, hi2]
    rcases h2 with ⟨h3, h4⟩ | ⟨h3, h4⟩
    · rw [if_neg (by rw [h4]; omega), h3, h4, e1, h1]; exact ⟨rfl, fun _ => rfl⟩
    · rw [if_pos h4, h3]; exact ⟨rfl, fun h => by cases h⟩
theorem valid_fr {q : Qr} (h : validE q = 0) : q.fr.isEmpty = false := by
  cases hf : q.fr with
  | cons => rfl
  | nil =>
    exfalso
    unfold validE at h
    rw [hf] at h
    revert h
    have hn : nameB ([] : List UInt8) = false := by decide
    rw [hn]
    simp
    split <;> decide
theorem to_toV {rs : List Rt} (h : checkE rs = 0) (n f : List UInt8) : (endV rs n f).2.2 = (toV rs n f).2.2 ∧ ((endV rs n f).2.2 = true → endV rs n f = toV rs n f) := by
  cases hn : n.isEmpty with
  | true =>
    have e1 : endV rs n f = (-1, -1, true) := by unfold endV; rw [hn]; rfl
    have e2 : toV rs n f = (-1, -1, true) := by unfold toV; rw [hn]; rfl
    rw [e1, e2]; exact ⟨rfl, fun _ => rfl⟩
  | false =>
    have e2 : toV rs n f = placeV rs n f := by unfold toV; rw [hn]; rfl
    rw [e2]; exact end_place h hn
theorem via_viaV (rs : List Rt) (n : List UInt8) : (endV rs n []).2.2 = (viaV rs n).2 ∧ ((endV rs n []).2.2 = true → (endV rs n []).1 = (viaV rs n).1) := by
  unfold endV viaV
  cases hn : n.isEmpty with
  | true => exact ⟨rfl, fun _ => rfl⟩
  | false =>
    simp only [Bool.false_eq_true, if_false]
    by_cases hr : rtIdx rs n < 0
    · rw [if_pos hr]
      exact ⟨by simp; omega, fun h => by cases h⟩
    · rw [if_neg hr]
      exact ⟨by simp; omega, fun _ => rfl⟩
theorem res_eq {rs : List Rt} (h : checkE rs = 0) (q : Qr) : resV rs q = rresV rs q := by
  unfold resV rresV
  by_cases hv : validE q = 0
  case neg => rw [if_neg hv, if_neg hv]
  rw [if_pos hv, if_pos hv]
  obtain ⟨a1, a2⟩ := end_place h (f := q.fi) (valid_fr hv)
  obtain ⟨b1, b2⟩ := to_toV h q.tr q.ti
  obtain ⟨c1, c2⟩ := via_viaV rs q.via
  rw [← a1, ← b1, ← c1]
  cases h1 : (endV rs q.fr q.fi).2.2 with
  | false => rfl
  | true =>
  cases h2 : (endV rs q.tr q.ti).2.2 with
  | false => rfl
  | true =>
  cases h3 : (endV rs q.via []).2.2 with
  | false => rfl
  | true =>
  rw [← a2 h1, ← b2 h2, ← c2 h3]
end Go.Proofs.YtnhemjdmleilcaaGreatDoor
