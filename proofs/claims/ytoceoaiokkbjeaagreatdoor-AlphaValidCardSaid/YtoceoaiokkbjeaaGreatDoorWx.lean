/- The built-in copy at rows of several cells; an element set into an owned slice (plain). No condition. -/
import Derived.Test.YtoceoaiokkbjeaaGreatDoorWu
import Derived.Test.YtoceoaiokkbjeaaGreatDoorWs
import Derived.Lib.AppendZerosOnto
import Derived.Lib.Overlaps
namespace Go.Proofs.YtoceoaiokkbjeaaGreatDoor
open Lib (hid)
open Go.RowKit
theorem zAy {P : Program} (w : World) (dT sT ty elem : TypeId) (s : Nat) (b o dLen dCap : Nat) (a : Addr) (sLen sCap : Nat) (cs : List Value)
  (hu : P.underlying dT = some (.slice elem)) (hs : (P.info? elem).map (·.size) = some s) (hn : cs.length = Nat.min sLen dLen * s)
  (hsrc : ∀ j v, cs[j]? = some v → w.cell? (a.add j) = some v) (hc : ∀ j, j < cs.length → (w.cell? ⟨b, o + j, none⟩).isSome = true) (hf : ∀ j, j < cs.length → w.frozen? ⟨b, o + j, none⟩ = false) (h1 : ∀ v ∈ cs, v.oneCell' = true) :
  (Builtin.copy_ #[dT, sT] ty #[.slice (some ⟨b, o, none⟩) dLen dCap, .slice (some a) sLen sCap]).run P w = .ok (goInt (Nat.min sLen dLen)) (w.setCells b o cs) := by
 have hl := run_loadCells_list (P := P) w a cs hsrc
 have hst := run_storeCells_cells (P := P) b o cs 0 w (by simpa using hc) (by simpa using hf) h1
 cases hq : P.info? elem with
 | none => simp [hq] at hs
 | some i =>
  have hi : i.size = s := by simpa [hq] using hs
  simp [Builtin.copy_, run_underlying hu, Builtin.lenOf, Builtin.firstCells, sizeOf, typeInfo, hq, hi, ← hn, hl, hst]
section
variable {P : Program} {ops : Array Oper} {rest : List Oper} {o : Oper} {a : Act} {w : World}
theorem wp_copyR {K : Act → World → Prop} {Q : Exit → Act → World → Prop} (d s : Operand) (t t' : TypeId) (ho : o.op = .call { callee := .builtin .copy, args := #[d, s], argTypes := #[t, t'] }) (v u : Value) (hd : a.eval d = v) (hs : a.eval s = u) {v' : Value} {w' : World}
  (hr : (Builtin.copy_ #[t, t'] o.type #[v, u]).run P w = .ok v' w') (h : K (a.put o.dst v') w') : o.wp P a w K Q := by
 unfold Oper.wp execOp
 simp only [ho, resolve, invoke, builtin, Sem.run_bind, Sem.run_pure, Result.andThen_ok, List.map_toArray, List.map_cons, List.map_nil, hd, hs, hr]
 exact h
theorem zDf {Q : Exit → Act → World → Prop} (hgd : o.guard = none) (d s : Operand) (t t' : TypeId) (ho : o.op = .call { callee := .builtin .copy, args := #[d, s], argTypes := #[t, t'] }) (v u : Value) (hd : a.eval d = v) (hs : a.eval s = u) {v' : Value} {w' : World}
  (hr : (Builtin.copy_ #[t, t'] o.type #[v, u]).run P w = .ok v' w') (h : wpList P ops Q rest (a.put o.dst v') w') : wpList P ops Q (o :: rest) a w :=
 wpList_plain hgd fun _ hK => wp_copyR d s t t' ho v u hd hs hr (hK _ _ h)
theorem zEf {K : Act → World → Prop} {Q : Exit → Act → World → Prop} {E : Prop} (hg : o.guard = none) (d x : Operand) (dT sT : TypeId) (hop : o.op = Op.call { callee := Callee.builtin Builtin.copy, args := #[d, x], argTypes := #[dT, sT] })
  (v u : Value) (hd : a.eval d = v) (hx : a.eval x = u) {v' : Value} {w' : World} (hr : (Builtin.copy_ #[dT, sT] o.type #[v, u]).run P w = .ok v' w') (hK : K (a.put o.dst v') w') :
  if Region.wanted o (yielded ops a.tmps) = true then Oper.wp P o a w K Q else E := by
 have hw : Region.wanted o (yielded ops a.tmps) = true := by simp [Region.wanted, hg]
 rw [if_pos hw]
 exact wp_copyR d x dT sT hop v u hd hx hr hK
end
theorem zFn {vs : List Value} {o : Nat} {cur : Array Value} (h : o + vs.length ≤ cur.size) : (zAt cur o vs).toList = cur.toList.take o ++ (vs ++ cur.toList.drop (o + vs.length)) := by
 apply List.ext_getElem?
 intro k
 rw [Array.getElem?_toList, zCs]
 have hl : (cur.toList.take o).length = o := by rw [List.length_take, Array.length_toList]; omega
 by_cases h1 : k < o
 ·rw [if_neg (by omega), List.getElem?_append_left (by omega), List.getElem?_take_of_lt h1, Array.getElem?_toList]
 ·rw [List.getElem?_append_right (by omega), hl]
  by_cases h2 : k < o + vs.length
  ·rw [if_pos (by omega), List.getElem?_append_left (by omega)]
  ·rw [if_neg (by omega), List.getElem?_append_right (by omega), List.getElem?_drop, ← Array.getElem?_toList]
   congr 1
   omega
section
variable {α : Type} {cells : α → Array Value} {n : Nat}
theorem zBv (hl : ∀ x, (cells x).toList.length = n) (l : List α) : (l.flatMap fun x => (cells x).toList).length = l.length * n := zJa (fun x => (cells x).toList) hl l
theorem flat_ins (l : List α) (i : Nat) (x : α) : ((insAt l i x).flatMap fun x => (cells x).toList) = ((l.take i).flatMap fun x => (cells x).toList) ++ ((cells x).toList ++ ((l.drop i).flatMap fun x => (cells x).toList)) := by
 unfold insAt
 rw [List.flatMap_append, List.flatMap_cons]
theorem zFp (hl : ∀ x, (cells x).toList.length = n) : ∀ (l : List α) (i : Nat), (l.flatMap fun x => (cells x).toList).take (i * n) = (l.take i).flatMap fun x => (cells x).toList
 | [], i => by simp
 | x :: r, 0 => by simp
 | x :: r, i + 1 => by
  rw [List.flatMap_cons, List.take_succ_cons, List.flatMap_cons, Nat.succ_mul, Nat.add_comm, ← zFp hl r i, ← hl x, List.take_append]
  rw [List.take_of_length_le (by omega), Nat.add_sub_cancel_left]
theorem zCh (hl : ∀ x, (cells x).toList.length = n) : ∀ (l : List α) (i : Nat), (l.flatMap fun x => (cells x).toList).drop (i * n) = (l.drop i).flatMap fun x => (cells x).toList
 | [], i => by simp
 | x :: r, 0 => by simp
 | x :: r, i + 1 => by
  rw [List.flatMap_cons, List.drop_succ_cons, Nat.succ_mul, Nat.add_comm, ← zCh hl r i, ← hl x, List.drop_append]
  rw [List.drop_of_length_le (by omega), Nat.add_sub_cancel_left, List.nil_append]
theorem zJb (hl : ∀ x, (cells x).toList.length = n) {l : List α} {i : Nat} {x : α} {cur : Array Value} (hi : i < l.length) (hs : (l.length + 1) * n ≤ cur.size) (hc : cur.toList.take (l.length * n) = l.flatMap fun x => (cells x).toList) :
  (zAt (zAt cur ((i + 1) * n) ((l.drop i).flatMap fun x => (cells x).toList)) (i * n) (cells x).toList).toList.take ((l.length + 1) * n) = (insAt l i x).flatMap fun x => (cells x).toList := by
 have hx := hl x
 have hq : ((l.drop i).flatMap fun x => (cells x).toList).length = (l.length - i) * n := by rw [zBv hl, List.length_drop]
 have hsum : (i + 1) * n + (l.length - i) * n = (l.length + 1) * n := by rw [← Nat.add_mul]; congr 1; omega
 have hin : (i + 1) * n = i * n + n := Nat.succ_mul i n
 have hP : cur.toList.take (i * n) = (l.take i).flatMap fun x => (cells x).toList := by
  rw [← zFp hl, ← hc, List.take_take, Nat.min_eq_left (Nat.mul_le_mul_right n (Nat.le_of_lt hi))]
 have hPl : ((l.take i).flatMap fun x => (cells x).toList).length = i * n := by rw [zBv hl, List.length_take, Nat.min_eq_left (Nat.le_of_lt hi)]
 rw [zFn (by rw [zAj, hx]; omega), zFn (by rw [hq]; omega), flat_ins, hx]
 generalize ((l.drop i).flatMap fun x => (cells x).toList) = Q at hq ⊢
 generalize (cells x).toList = X at hx ⊢
 rw [hq, hsum]
 have e1 : (cur.toList.take ((i + 1) * n) ++ (Q ++ cur.toList.drop ((l.length + 1) * n))).take (i * n) = (l.take i).flatMap fun x => (cells x).toList := by
  rw [List.take_append_of_le_length (by rw [List.length_take, Array.length_toList]; omega), List.take_take, Nat.min_eq_left (by omega), hP]
 have e2 : (cur.toList.take ((i + 1) * n) ++ (Q ++ cur.toList.drop ((l.length + 1) * n))).drop (i * n + n) = Q ++ cur.toList.drop ((l.length + 1) * n) := by
  rw [List.drop_append, List.drop_eq_nil_of_le (by rw [List.length_take]; omega), List.length_take, Array.length_toList, Nat.min_eq_left (by omega), ← hin, Nat.sub_self]
  rfl
 rw [e1, e2]
 rw [← List.append_assoc, ← List.append_assoc, List.take_append_of_le_length (by simp only [List.length_append, hPl, hx, hq]; omega), List.take_of_length_le (by simp only [List.length_append, hPl, hx, hq]; omega), List.append_assoc]
theorem ins_new (hl : ∀ x, (cells x).toList.length = n) {l : List α} {i : Nat} {x : α} {cur : Array Value} (hi : i < l.length) (hs : (l.length + 1) * n ≤ cur.size) (hc : cur.toList.take (i * n) = (l.take i).flatMap fun x => (cells x).toList) :
  (zAt (zAt cur (i * n) (cells x).toList) ((i + 1) * n) ((l.drop i).flatMap fun x => (cells x).toList)).toList.take ((l.length + 1) * n) = (insAt l i x).flatMap fun x => (cells x).toList := by
 have hx := hl x
 have hq : ((l.drop i).flatMap fun x => (cells x).toList).length = (l.length - i) * n := by rw [zBv hl, List.length_drop]
 have hsum : (i + 1) * n + (l.length - i) * n = (l.length + 1) * n := by rw [← Nat.add_mul]; congr 1; omega
 have hin : (i + 1) * n = i * n + n := Nat.succ_mul i n
 have hPl : ((l.take i).flatMap fun x => (cells x).toList).length = i * n := by rw [zBv hl, List.length_take, Nat.min_eq_left (Nat.le_of_lt hi)]
 rw [zFn (by rw [zAj, hq]; omega), zFn (by rw [hx]; omega), flat_ins, hc]
 generalize ((l.drop i).flatMap fun x => (cells x).toList) = Q at hq ⊢
 generalize (cells x).toList = X at hx ⊢
 generalize ((l.take i).flatMap fun x => (cells x).toList) = Pp at hPl ⊢
 rw [hx]
 have e1 : (Pp ++ (X ++ cur.toList.drop (i * n + n))).take ((i + 1) * n) = Pp ++ X := by
  rw [← List.append_assoc, List.take_append_of_le_length (by rw [List.length_append]; omega), List.take_of_length_le (by rw [List.length_append]; omega)]
 rw [e1, ← List.append_assoc, List.take_append_of_le_length (by simp only [List.length_append, hPl, hx, hq]; omega), List.take_of_length_le (by simp only [List.length_append, hPl, hx, hq]; omega), List.append_assoc]
end
end Go.Proofs.YtoceoaiokkbjeaaGreatDoor
