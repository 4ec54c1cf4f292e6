/- An argument that is a slice of rows of n cells each: what the walks are told of it; any element type. No condition. -/
import Derived.Test.YtdlgnhefpoalnaaGreatDoorJa
import Derived.Lib.SmallJoins
namespace Go.Proofs.YtdlgnhefpoalnaaGreatDoor
open Lib (hid)
open Go.RowKit Go.ChangeShapes Go.WideShapes Go.Deep
theorem zIj {α:Type} (cells:α→List Value) {n:Nat} (hn:0 < n) (hl:∀ e,(cells e).length = n):∀ (es:List α) (k:Nat),(es.flatMap cells)[k]? = (es[k / n]?).bind (fun e => (cells e)[k % n]?)
 | [],k => by simp
 | e :: es,k => by
  rw [List.flatMap_cons]
  rcases Nat.lt_or_ge k n with h | h
  ·rw [List.getElem?_append_left (by rw [hl]; exact h),Nat.div_eq_of_lt h,Nat.mod_eq_of_lt h]
   rfl
  ·rw [List.getElem?_append_right (by rw [hl]; exact h),hl,zIj cells hn hl es (k - n)]
   have h1:k / n = (k - n) / n + 1:=by rw [Nat.div_eq_sub_div hn h]
   have h2:k % n = (k - n) % n:=Nat.mod_eq_sub_mod h
   rw [h1,h2]
   rfl
theorem zMx {α:Type} (cells:α→List Value) {n:Nat} (hl:∀ e,(cells e).length = n):∀ (es:List α),(es.flatMap cells).length = es.length * n
 | [] => by simp
 | e :: es => by rw [List.flatMap_cons,List.length_append,hl,zMx cells hl es,List.length_cons,Nat.succ_mul]; omega
end Go.Proofs.YtdlgnhefpoalnaaGreatDoor
