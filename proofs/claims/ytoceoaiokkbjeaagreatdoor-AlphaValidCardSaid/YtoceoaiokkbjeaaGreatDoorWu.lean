/- Lists of lists in memory: the rows of slices that hold them. No condition. -/
import Derived.Test.YtoceoaiokkbjeaaGreatDoorWp
import Derived.Test.YtoceoaiokkbjeaaGreatDoorWt
namespace Go.Proofs.YtoceoaiokkbjeaaGreatDoor
open Lib (hid)
open Go.RowKit
structure Lm (α : Type) where
 name : List UInt8
 seqs : List Int
 items : List α
 sv : Value
 iv : Value
 s1 : sv.oneCell' = true
 i1 : iv.oneCell' = true
section
variable {α : Type}
def Lm.ls (m : Lm α) : Ls α := ⟨m.name, m.seqs, m.items⟩
def Lm.C (m : Lm α) : Array Value := #[strV m.name, m.sv, m.iv]
theorem Lm.one (m : Lm α) : m.C.all (·.oneCell') = true := by
 have h1 := m.s1
 have h2 := m.i1
 rw [Array.all_eq_true_iff_forall_mem]
 intro v hv
 simp only [Lm.C, List.mem_toArray, List.mem_cons, List.not_mem_nil, or_false] at hv
 rcases hv with rfl | rfl | rfl
 ·rfl
 ·exact h1
 ·exact h2
def Lm.new (n : List UInt8) : Lm α := ⟨n, [], [], .slice none 0 0, .slice none 0 0, rfl, rfl⟩
instance : Inhabited (Lm α) := ⟨Lm.new []⟩
theorem own_one {w : World} {B : Nat} {T : TypeId} {n k : Nat} {v : Value} {xs : List Value} (h : w.ownsRow B T n v k xs) : v.oneCell' = true := by
 obtain ⟨-, h⟩ := h
 rcases h with ⟨rfl, -⟩ | ⟨g, cap, cur, rfl, -⟩ <;> rfl
def intC (x : Int) : Array Value := #[.int .i64 x]
def rowE (T : TypeId) (n : Nat) (cells : α → Array Value) (v : Value) (l : List α) : Orow := ⟨T, n, v, l.length, l.flatMap fun x => (cells x).toList⟩
def Lm.rows (Ti T : TypeId) (n : Nat) (cells : α → Array Value) (m : Lm α) : List Orow := [rowE Ti 1 intC m.sv m.seqs, rowE T n cells m.iv m.items]
def zAq (Tl Ti T : TypeId) (n : Nat) (cells : α → Array Value) (v : Value) (ms : List (Lm α)) : List Orow := rowE Tl 3 Lm.C v ms :: ms.flatMap (Lm.rows Ti T n cells)
theorem rowE_own {w : World} {B : Nat} {T : TypeId} {n : Nat} {cells : α → Array Value} {v : Value} {l : List α} : (rowE T n cells v l).own w B ↔ OwnE w B T n cells v l := Iff.rfl
theorem flat_sub {β : Type} {f : α → List β} {l l' : List α} (h : l'.Sublist l) : (l'.flatMap f).Sublist (l.flatMap f) := by
 induction h with
 | slnil => exact List.Sublist.refl _
 | cons a _ ih => exact ih.trans (by rw [List.flatMap_cons]; exact List.sublist_append_right _ _)
 | cons_cons a _ ih => rw [List.flatMap_cons, List.flatMap_cons]; exact (List.Sublist.refl _).append ih
theorem zKk {l : List α} {k : Nat} (hk : k < l.length) : l = l.take k ++ l[k] :: l.drop (k + 1) := by
 rw [← List.drop_eq_getElem_cons hk, List.take_append_drop]
theorem zDo {β : Type} (f : α → β) (l : List α) (k : Nat) (x : α) : (zAm l k x).map f = zAm (l.map f) k (f x) := by unfold zAm; simp [List.map_take, List.map_drop]
theorem delAt_map {β : Type} (f : α → β) (l : List α) (k : Nat) : (delAt l k).map f = delAt (l.map f) k := by unfold delAt; simp [List.map_take, List.map_drop]
end
theorem count_place (x : Int) : ∀ l : List Int, l.Pairwise (· < ·) → l.countP (fun y => decide (y < x)) = zAc x l
 | [], _ => rfl
 | y :: r, h => by
  rw [List.pairwise_cons] at h
  unfold zAc
  rw [List.countP_cons]
  by_cases hy : y < x
  ·rw [if_pos hy, count_place x r h.2]; simp [hy]
  ·rw [if_neg hy]
   have h0 : r.countP (fun y => decide (y < x)) = 0 := by
    rw [List.countP_eq_zero]
    intro z hz
    have := h.1 z hz
    simp; omega
   rw [h0]; simp [hy]
theorem zKg (x : Int) : ∀ l : List Int, l.Pairwise (· < ·) → l.contains x = zDq x l
 | [], _ => rfl
 | y :: r, h => by
  rw [List.pairwise_cons] at h
  have ih := zKg x r h.2
  unfold zDq at ih ⊢
  unfold zAc
  rw [List.contains_cons]
  by_cases hy : y < x
  ·rw [if_pos hy, List.getElem?_cons_succ, ← ih]
   have : (x == y) = false := beq_eq_false_iff_ne.2 (by omega)
   rw [this, Bool.false_or]
  ·rw [if_neg hy, List.getElem?_cons_zero]
   by_cases he : y = x
   ·subst he; simp
   ·have h0 : r.contains x = false := by
     rw [Bool.eq_false_iff]
     intro hc
     have := h.1 x (by simpa using hc)
     omega
    rw [h0]
    have e1 : (x == y) = false := beq_eq_false_iff_ne.2 (fun e => he e.symm)
    have e2 : (some y == some x) = false := beq_eq_false_iff_ne.2 (fun e => he (Option.some.inj e))
    rw [e1, e2]; rfl
end Go.Proofs.YtoceoaiokkbjeaaGreatDoor
