/- The walk of edit.check. Conditions: MaxLen's cell; at most 10^9 texts and edits, lines of at most 10^9 bytes. -/
import Derived.Test.YtpclacofcfbpjaaDoorEditJ
namespace Go.Proofs.YtpclacofcfbpjaaDoor
open Go.RowKit

def Short (lss : List (List (List UInt8))) : Prop := ∀ ls ∈ lss, ls.length ≤ 1000000000 ∧ ∀ l ∈ ls, l.length ≤ 1000000000
def CheckPost (n : Int) (w : World) (e : Ending) (w' : World) : Prop := e = .returned (.int .i64 n) ∧ Below w.heap.size w w'
theorem check_mk {n m : Int} (h : n = m) {w w' : World} (hb : Below w.heap.size w w') : CheckPost n w (.returned (.int .i64 m)) w' := by subst h; exact ⟨rfl, hb⟩
theorem below_box (w : World) (o : Obj) : Below w.heap.size w (w.alloc o) := (Below.refl _ w).alloc (Nat.le_refl _) o
theorem check_at {lss : List (List (List UInt8))} {es : List Ed} {x : Ed} {j : Nat} (h : x.cfg = j) (hj : j < lss.length) : checkErr lss es x = checkIn lss[j] es x := by
  unfold checkErr
  rw [h, if_neg (by omega)]; simp [hj]
theorem any_step {l : List Ed} {x : Ed} {k : Nat} (h : k < l.length) : (l.drop k).any (clash x) = (clash x l[k] || (l.drop (k + 1)).any (clash x)) := by
  rw [list_step l k h]; rfl
theorem box4_cells (w : World) (a b c d : Value) (t : TypeId) : (w.alloc (.cells #[a, b, c, d] t)).cell? ⟨w.heap.size, 0, none⟩ = some a ∧ (w.alloc (.cells #[a, b, c, d] t)).cell? ⟨w.heap.size, 1, none⟩ = some b ∧
    (w.alloc (.cells #[a, b, c, d] t)).cell? ⟨w.heap.size, 2, none⟩ = some c ∧ (w.alloc (.cells #[a, b, c, d] t)).cell? ⟨w.heap.size, 3, none⟩ = some d := by
  refine ⟨?_, ?_, ?_, ?_⟩ <;> (rw [World.cell?_alloc_at _ _ _ _ rfl]; rfl)

theorem box_keep {w : World} {a : Addr} {v : Value} {z : Nat} {o : Obj} (_ : z + 1 ≤ w.heap.size) (h : w.cell? a = some v) : (w.alloc o).cell? a = some v := by
  rw [World.cell?_alloc_lt _ _ _ (World.block_lt_of_cell? _ _ h)]; exact h
theorem box_size {w : World} {z : Nat} {o : Obj} (h : z + 1 ≤ w.heap.size) : z + 1 ≤ (w.alloc o).heap.size := by simp; omega
theorem box_below {w0 w : World} {o : Obj} (hz : w0.heap.size + 1 ≤ w.heap.size) (h : Below w0.heap.size w0 w) : Below w0.heap.size w0 (w.alloc o) := h.alloc (by omega) o

set_option maxHeartbeats 1000000 in
theorem check_out (A : Option Addr) (n cc : Nat) (ve : Value) (lss : List (List (List UInt8))) (es : List Ed) (c l k : Int) (t : ByteArray) (w : World) (hn : n = lss.length) (h : c < 0 ∨ (n : Int) ≤ c) :
    Calls Tryd.prog 28 #[.slice A n cc, ve, .agg #[.int .i64 c, .int .i64 l, .int .i64 k, .string t]] w (CheckPost (checkErr lss es ⟨c, l, k, bytes t⟩) w) := by
  have HR : Hid (checkErr lss es ⟨c, l, k, bytes t⟩ = 1) := Lib.hid (by
    unfold checkErr
    by_cases h0 : c < 0
    · rw [if_pos h0]
    · rw [if_neg h0, List.getElem?_eq_none (by show lss.length ≤ c.toNat; omega)])
  have HN := Lib.hid hn
  clear hn
  by_cases h0 : c < 0
  · clear h
    go_enter Tryd.func28, Tryd.ntmps28
    go_wp2_with fail
    go_ret
    exact check_mk HR.out (below_box _ _)
  · have d0 : decide (c < 0) = false := decide_eq_false h0
    have h1 : (n : Int) ≤ c := by omega
    clear h
    go_enter Tryd.func28, Tryd.ntmps28
    go_wp2_with fail
    go_ret
    exact check_mk HR.out (below_box _ _)

set_option maxRecDepth 100000 in
set_option maxHeartbeats 2000000 in
theorem check_kind (A : Option Addr) (n cc j : Nat) (ve : Value) (lss : List (List (List UInt8))) (es : List Ed) (l k : Int) (t : ByteArray) (w : World) (hL : LL w w.heap.size (.slice A n cc) lss) (hn : n = lss.length) (hj : j < lss.length) (hS : Short lss) (h : ¬ (k = 1 ∨ k = 2 ∨ k = 3)) :
    Calls Tryd.prog 28 #[.slice A n cc, ve, .agg #[.int .i64 j, .int .i64 l, .int .i64 k, .string t]] w (CheckPost (checkErr lss es ⟨j, l, k, bytes t⟩) w) := by
  have HR : Hid (checkErr lss es ⟨j, l, k, bytes t⟩ = 1) := Lib.hid ((check_at rfl hj).trans (by unfold checkIn; rw [if_pos h]))
  obtain ⟨g, o, u, eA, hg, c1, hs⟩ := hL.at hj
  have hls := (hS _ (List.getElem_mem hj)).1
  have hjn : j < n := by omega
  clear hL hn
  subst eA
  obtain ⟨Au, cu, rfl, hcu, hub, hu⟩ := hs.form
  have HLL := Lib.hid (hS _ (List.getElem_mem hj)).2
  generalize lss[j] = ls at *
  have HU := Lib.hid hu
  clear hu hs hS hj
  have d0 : decide ((j : Int) < 0) = false := decide_eq_false (by omega)
  have d1 : decide (n ≤ j) = false := decide_eq_false (by omega)
  have k1 : (k == 1) = false := beq_false_of_ne (by omega)
  have k2 : (k == 2) = false := beq_false_of_ne (by omega)
  have k3 : (k == 3) = false := beq_false_of_ne (by omega)
  clear h
  go_enter Tryd.func28, Tryd.ntmps28
  go_wp2_with fail
  go_ret
  exact check_mk HR.out (below_box _ _)
set_option maxRecDepth 100000 in
set_option maxHeartbeats 2000000 in
theorem check_ins_lo (A : Option Addr) (n cc j : Nat) (ve : Value) (lss : List (List (List UInt8))) (es : List Ed) (l : Int) (t : ByteArray) (w : World) (hL : LL w w.heap.size (.slice A n cc) lss) (hn : n = lss.length) (hj : j < lss.length) (hS : Short lss) (h : l < 1) :
    Calls Tryd.prog 28 #[.slice A n cc, ve, .agg #[.int .i64 j, .int .i64 l, .int .i64 3, .string t]] w (CheckPost (checkErr lss es ⟨j, l, 3, bytes t⟩) w) := by
  have HR : Hid (checkErr lss es ⟨j, l, 3, bytes t⟩ = 1) := Lib.hid ((check_at rfl hj).trans (by unfold checkIn; rw [if_neg (by simp), if_neg (by simp), if_pos (.inl h)]))
  obtain ⟨g, o, u, eA, hg, c1, hs⟩ := hL.at hj
  have hls := (hS _ (List.getElem_mem hj)).1
  have hjn : j < n := by omega
  clear hL hn
  subst eA
  obtain ⟨Au, cu, rfl, hcu, hub, hu⟩ := hs.form
  have HLL := Lib.hid (hS _ (List.getElem_mem hj)).2
  generalize lss[j] = ls at *
  have HU := Lib.hid hu
  clear hu hs hS hj
  have d0 : decide ((j : Int) < 0) = false := decide_eq_false (by omega)
  have d1 : decide (n ≤ j) = false := decide_eq_false (by omega)
  have e1 : decide (l < 1) = true := decide_eq_true h
  go_enter Tryd.func28, Tryd.ntmps28
  go_wp2_with fail
  go_ret
  exact check_mk HR.out (below_box _ _)
set_option maxRecDepth 100000 in
set_option maxHeartbeats 2000000 in
theorem check_ins_hi (A : Option Addr) (n cc j : Nat) (ve : Value) (lss : List (List (List UInt8))) (es : List Ed) (l : Int) (t : ByteArray) (w : World) (hL : LL w w.heap.size (.slice A n cc) lss) (hn : n = lss.length) (hj : j < lss.length) (hS : Short lss) (h0 : ¬ l < 1) (h : (lss[j].length : Int) + 1 < l) :
    Calls Tryd.prog 28 #[.slice A n cc, ve, .agg #[.int .i64 j, .int .i64 l, .int .i64 3, .string t]] w (CheckPost (checkErr lss es ⟨j, l, 3, bytes t⟩) w) := by
  have HR : Hid (checkErr lss es ⟨j, l, 3, bytes t⟩ = 1) := Lib.hid ((check_at rfl hj).trans (by unfold checkIn; rw [if_neg (by simp), if_neg (by simp), if_pos (.inr (.inl (by unfold lastLine; rw [if_pos rfl]; exact h)))]))
  obtain ⟨g, o, u, eA, hg, c1, hs⟩ := hL.at hj
  have hls := (hS _ (List.getElem_mem hj)).1
  have hjn : j < n := by omega
  clear hL hn
  subst eA
  obtain ⟨Au, cu, rfl, hcu, hub, hu⟩ := hs.form
  have HLL := Lib.hid (hS _ (List.getElem_mem hj)).2
  generalize lss[j] = ls at *
  have HU := Lib.hid hu
  clear hu hs hS hj
  have d0 : decide ((j : Int) < 0) = false := decide_eq_false (by omega)
  have d1 : decide (n ≤ j) = false := decide_eq_false (by omega)
  have e1 : decide (l < 1) = false := decide_eq_false h0
  have e2 : decide ((ls.length : Int) + 1 < l) = true := decide_eq_true h
  go_enter Tryd.func28, Tryd.ntmps28
  go_wp2_with fail
  go_ret
  exact check_mk HR.out (below_box _ _)
set_option maxRecDepth 100000 in
set_option maxHeartbeats 2000000 in
theorem check_ins_bad (A : Option Addr) (n cc j : Nat) (ve : Value) (lss : List (List (List UInt8))) (es : List Ed) (l : Int) (t : ByteArray) (w : World) (hL : LL w w.heap.size (.slice A n cc) lss) (hn : n = lss.length) (hj : j < lss.length) (hS : Short lss) (ht : t.size ≤ 1000000000) (h0 : ¬ l < 1) (h : ¬ (lss[j].length : Int) + 1 < l) (hp : printB (bytes t) = false) :
    Calls Tryd.prog 28 #[.slice A n cc, ve, .agg #[.int .i64 j, .int .i64 l, .int .i64 3, .string t]] w (CheckPost (checkErr lss es ⟨j, l, 3, bytes t⟩) w) := by
  have HR : Hid (checkErr lss es ⟨j, l, 3, bytes t⟩ = 1) := Lib.hid ((check_at rfl hj).trans (by unfold checkIn; rw [if_neg (by simp), if_neg (by simp), if_pos (.inr (.inr hp))]))
  obtain ⟨g, o, u, eA, hg, c1, hs⟩ := hL.at hj
  have hls := (hS _ (List.getElem_mem hj)).1
  have hjn : j < n := by omega
  clear hL hn
  subst eA
  obtain ⟨Au, cu, rfl, hcu, hub, hu⟩ := hs.form
  have HLL := Lib.hid (hS _ (List.getElem_mem hj)).2
  generalize lss[j] = ls at *
  have HU := Lib.hid hu
  clear hu hs hS hj
  have d0 : decide ((j : Int) < 0) = false := decide_eq_false (by omega)
  have d1 : decide (n ≤ j) = false := decide_eq_false (by omega)
  have HP : Hid (∀ w', Calls Tryd.prog 39 #[.string t] w' fun e w'' => e = .returned (.bool false) ∧ w' = w'') := Lib.hid (fun w' => by have := printable_any t w' ht; rw [hp] at this; exact this)
  clear hp
  have e1 : decide (l < 1) = false := decide_eq_false h0
  have e2 : decide ((ls.length : Int) + 1 < l) = false := decide_eq_false h
  go_enter Tryd.func28, Tryd.ntmps28
  go_wp2_with fail
  refine (HP.out _).mono ?_
  rintro e w' ⟨rfl, rfl⟩
  go_wp2_with fail
  go_ret
  exact check_mk HR.out (below_box _ _)
set_option maxRecDepth 100000 in
set_option maxHeartbeats 2000000 in
theorem check_ins_ok (A : Option Addr) (n cc j : Nat) (ve : Value) (lss : List (List (List UInt8))) (es : List Ed) (l : Int) (t : ByteArray) (w : World) (hL : LL w w.heap.size (.slice A n cc) lss) (hn : n = lss.length) (hj : j < lss.length) (hS : Short lss) (ht : t.size ≤ 1000000000) (h0 : ¬ l < 1) (h : ¬ (lss[j].length : Int) + 1 < l) (hp : printB (bytes t) = true) :
    Calls Tryd.prog 28 #[.slice A n cc, ve, .agg #[.int .i64 j, .int .i64 l, .int .i64 3, .string t]] w (CheckPost (checkErr lss es ⟨j, l, 3, bytes t⟩) w) := by
  have HR : Hid (checkErr lss es ⟨j, l, 3, bytes t⟩ = 0) := Lib.hid ((check_at rfl hj).trans (by unfold checkIn; rw [if_neg (by simp), if_neg (by simp), if_neg (by unfold lastLine; rw [if_pos rfl, hp]; simp; omega), if_pos rfl]))
  obtain ⟨g, o, u, eA, hg, c1, hs⟩ := hL.at hj
  have hls := (hS _ (List.getElem_mem hj)).1
  have hjn : j < n := by omega
  clear hL hn
  subst eA
  obtain ⟨Au, cu, rfl, hcu, hub, hu⟩ := hs.form
  have HLL := Lib.hid (hS _ (List.getElem_mem hj)).2
  generalize lss[j] = ls at *
  have HU := Lib.hid hu
  clear hu hs hS hj
  have d0 : decide ((j : Int) < 0) = false := decide_eq_false (by omega)
  have d1 : decide (n ≤ j) = false := decide_eq_false (by omega)
  have HP : Hid (∀ w', Calls Tryd.prog 39 #[.string t] w' fun e w'' => e = .returned (.bool true) ∧ w' = w'') := Lib.hid (fun w' => by have := printable_any t w' ht; rw [hp] at this; exact this)
  clear hp
  have e1 : decide (l < 1) = false := decide_eq_false h0
  have e2 : decide ((ls.length : Int) + 1 < l) = false := decide_eq_false h
  go_enter Tryd.func28, Tryd.ntmps28
  go_wp2_with fail
  refine (HP.out _).mono ?_
  rintro e w' ⟨rfl, rfl⟩
  go_wp2_with fail
  go_ret
  exact check_mk HR.out (below_box _ _)
set_option maxRecDepth 100000 in
set_option maxHeartbeats 2000000 in
theorem check_del_text (A : Option Addr) (n cc j : Nat) (ve : Value) (lss : List (List (List UInt8))) (es : List Ed) (l : Int) (t : ByteArray) (w : World) (hL : LL w w.heap.size (.slice A n cc) lss) (hn : n = lss.length) (hj : j < lss.length) (hS : Short lss) (h : ¬ bytes t = []) :
    Calls Tryd.prog 28 #[.slice A n cc, ve, .agg #[.int .i64 j, .int .i64 l, .int .i64 1, .string t]] w (CheckPost (checkErr lss es ⟨j, l, 1, bytes t⟩) w) := by
  have HR : Hid (checkErr lss es ⟨j, l, 1, bytes t⟩ = 1) := Lib.hid ((check_at rfl hj).trans (by unfold checkIn; rw [if_neg (by simp), if_pos ⟨by simp, h⟩]))
  obtain ⟨g, o, u, eA, hg, c1, hs⟩ := hL.at hj
  have hls := (hS _ (List.getElem_mem hj)).1
  have hjn : j < n := by omega
  clear hL hn
  subst eA
  obtain ⟨Au, cu, rfl, hcu, hub, hu⟩ := hs.form
  have HLL := Lib.hid (hS _ (List.getElem_mem hj)).2
  generalize lss[j] = ls at *
  have HU := Lib.hid hu
  clear hu hs hS hj
  have d0 : decide ((j : Int) < 0) = false := decide_eq_false (by omega)
  have d1 : decide (n ≤ j) = false := decide_eq_false (by omega)
  have v1 : t.toList.isEmpty = false := by rw [toList_bytes]; simpa using h
  have v2 : (t.toList == []) = false := by rw [toList_bytes]; exact beq_false_of_ne h
  clear h
  go_enter Tryd.func28, Tryd.ntmps28
  go_wp2_with fail
  go_ret
  exact check_mk HR.out (below_box _ _)
set_option maxRecDepth 100000 in
set_option maxHeartbeats 2000000 in
theorem check_del_lo (A : Option Addr) (n cc j : Nat) (ve : Value) (lss : List (List (List UInt8))) (es : List Ed) (l : Int) (w : World) (hL : LL w w.heap.size (.slice A n cc) lss) (hn : n = lss.length) (hj : j < lss.length) (hS : Short lss) (h : l < 1) :
    Calls Tryd.prog 28 #[.slice A n cc, ve, .agg #[.int .i64 j, .int .i64 l, .int .i64 1, .string ⟨#[]⟩]] w (CheckPost (checkErr lss es ⟨j, l, 1, []⟩) w) := by
  have HR : Hid (checkErr lss es ⟨j, l, 1, []⟩ = 1) := Lib.hid ((check_at rfl hj).trans (by unfold checkIn; rw [if_neg (by simp), if_neg (by simp), if_pos (.inl h)]))
  obtain ⟨g, o, u, eA, hg, c1, hs⟩ := hL.at hj
  have hls := (hS _ (List.getElem_mem hj)).1
  have hjn : j < n := by omega
  clear hL hn
  subst eA
  obtain ⟨Au, cu, rfl, hcu, hub, hu⟩ := hs.form
  have HLL := Lib.hid (hS _ (List.getElem_mem hj)).2
  generalize lss[j] = ls at *
  have HU := Lib.hid hu
  clear hu hs hS hj
  have d0 : decide ((j : Int) < 0) = false := decide_eq_false (by omega)
  have d1 : decide (n ≤ j) = false := decide_eq_false (by omega)
  have e1 : decide (l < 1) = true := decide_eq_true h
  go_enter Tryd.func28, Tryd.ntmps28
  go_wp2_with fail
  go_ret
  exact check_mk HR.out (below_box _ _)
set_option maxRecDepth 100000 in
set_option maxHeartbeats 2000000 in
theorem check_del_hi (A : Option Addr) (n cc j : Nat) (ve : Value) (lss : List (List (List UInt8))) (es : List Ed) (l : Int) (w : World) (hL : LL w w.heap.size (.slice A n cc) lss) (hn : n = lss.length) (hj : j < lss.length) (hS : Short lss) (h0 : ¬ l < 1) (h : (lss[j].length : Int) < l) :
    Calls Tryd.prog 28 #[.slice A n cc, ve, .agg #[.int .i64 j, .int .i64 l, .int .i64 1, .string ⟨#[]⟩]] w (CheckPost (checkErr lss es ⟨j, l, 1, []⟩) w) := by
  have HR : Hid (checkErr lss es ⟨j, l, 1, []⟩ = 1) := Lib.hid ((check_at rfl hj).trans (by unfold checkIn; rw [if_neg (by simp), if_neg (by simp), if_pos (.inr (.inl (by unfold lastLine; rw [if_neg (by simp)]; exact h)))]))
  obtain ⟨g, o, u, eA, hg, c1, hs⟩ := hL.at hj
  have hls := (hS _ (List.getElem_mem hj)).1
  have hjn : j < n := by omega
  clear hL hn
  subst eA
  obtain ⟨Au, cu, rfl, hcu, hub, hu⟩ := hs.form
  have HLL := Lib.hid (hS _ (List.getElem_mem hj)).2
  generalize lss[j] = ls at *
  have HU := Lib.hid hu
  clear hu hs hS hj
  have d0 : decide ((j : Int) < 0) = false := decide_eq_false (by omega)
  have d1 : decide (n ≤ j) = false := decide_eq_false (by omega)
  have e1 : decide (l < 1) = false := decide_eq_false h0
  have e2 : decide ((ls.length : Int) < l) = true := decide_eq_true h
  go_enter Tryd.func28, Tryd.ntmps28
  go_wp2_with fail
  go_ret
  exact check_mk HR.out (below_box _ _)
set_option maxRecDepth 100000 in
set_option maxHeartbeats 2000000 in
theorem check_flp_text (A : Option Addr) (n cc j : Nat) (ve : Value) (lss : List (List (List UInt8))) (es : List Ed) (l : Int) (t : ByteArray) (w : World) (hL : LL w w.heap.size (.slice A n cc) lss) (hn : n = lss.length) (hj : j < lss.length) (hS : Short lss) (h : ¬ bytes t = []) :
    Calls Tryd.prog 28 #[.slice A n cc, ve, .agg #[.int .i64 j, .int .i64 l, .int .i64 2, .string t]] w (CheckPost (checkErr lss es ⟨j, l, 2, bytes t⟩) w) := by
  have HR : Hid (checkErr lss es ⟨j, l, 2, bytes t⟩ = 1) := Lib.hid ((check_at rfl hj).trans (by unfold checkIn; rw [if_neg (by simp), if_pos ⟨by simp, h⟩]))
  obtain ⟨g, o, u, eA, hg, c1, hs⟩ := hL.at hj
  have hls := (hS _ (List.getElem_mem hj)).1
  have hjn : j < n := by omega
  clear hL hn
  subst eA
  obtain ⟨Au, cu, rfl, hcu, hub, hu⟩ := hs.form
  have HLL := Lib.hid (hS _ (List.getElem_mem hj)).2
  generalize lss[j] = ls at *
  have HU := Lib.hid hu
  clear hu hs hS hj
  have d0 : decide ((j : Int) < 0) = false := decide_eq_false (by omega)
  have d1 : decide (n ≤ j) = false := decide_eq_false (by omega)
  have v1 : t.toList.isEmpty = false := by rw [toList_bytes]; simpa using h
  have v2 : (t.toList == []) = false := by rw [toList_bytes]; exact beq_false_of_ne h
  clear h
  go_enter Tryd.func28, Tryd.ntmps28
  go_wp2_with fail
  go_ret
  exact check_mk HR.out (below_box _ _)
set_option maxRecDepth 100000 in
set_option maxHeartbeats 2000000 in
theorem check_flp_lo (A : Option Addr) (n cc j : Nat) (ve : Value) (lss : List (List (List UInt8))) (es : List Ed) (l : Int) (w : World) (hL : LL w w.heap.size (.slice A n cc) lss) (hn : n = lss.length) (hj : j < lss.length) (hS : Short lss) (h : l < 1) :
    Calls Tryd.prog 28 #[.slice A n cc, ve, .agg #[.int .i64 j, .int .i64 l, .int .i64 2, .string ⟨#[]⟩]] w (CheckPost (checkErr lss es ⟨j, l, 2, []⟩) w) := by
  have HR : Hid (checkErr lss es ⟨j, l, 2, []⟩ = 1) := Lib.hid ((check_at rfl hj).trans (by unfold checkIn; rw [if_neg (by simp), if_neg (by simp), if_pos (.inl h)]))
  obtain ⟨g, o, u, eA, hg, c1, hs⟩ := hL.at hj
  have hls := (hS _ (List.getElem_mem hj)).1
  have hjn : j < n := by omega
  clear hL hn
  subst eA
  obtain ⟨Au, cu, rfl, hcu, hub, hu⟩ := hs.form
  have HLL := Lib.hid (hS _ (List.getElem_mem hj)).2
  generalize lss[j] = ls at *
  have HU := Lib.hid hu
  clear hu hs hS hj
  have d0 : decide ((j : Int) < 0) = false := decide_eq_false (by omega)
  have d1 : decide (n ≤ j) = false := decide_eq_false (by omega)
  have e1 : decide (l < 1) = true := decide_eq_true h
  go_enter Tryd.func28, Tryd.ntmps28
  go_wp2_with fail
  go_ret
  exact check_mk HR.out (below_box _ _)
set_option maxRecDepth 100000 in
set_option maxHeartbeats 2000000 in
theorem check_flp_hi (A : Option Addr) (n cc j : Nat) (ve : Value) (lss : List (List (List UInt8))) (es : List Ed) (l : Int) (w : World) (hL : LL w w.heap.size (.slice A n cc) lss) (hn : n = lss.length) (hj : j < lss.length) (hS : Short lss) (h0 : ¬ l < 1) (h : (lss[j].length : Int) < l) :
    Calls Tryd.prog 28 #[.slice A n cc, ve, .agg #[.int .i64 j, .int .i64 l, .int .i64 2, .string ⟨#[]⟩]] w (CheckPost (checkErr lss es ⟨j, l, 2, []⟩) w) := by
  have HR : Hid (checkErr lss es ⟨j, l, 2, []⟩ = 1) := Lib.hid ((check_at rfl hj).trans (by unfold checkIn; rw [if_neg (by simp), if_neg (by simp), if_pos (.inr (.inl (by unfold lastLine; rw [if_neg (by simp)]; exact h)))]))
  obtain ⟨g, o, u, eA, hg, c1, hs⟩ := hL.at hj
  have hls := (hS _ (List.getElem_mem hj)).1
  have hjn : j < n := by omega
  clear hL hn
  subst eA
  obtain ⟨Au, cu, rfl, hcu, hub, hu⟩ := hs.form
  have HLL := Lib.hid (hS _ (List.getElem_mem hj)).2
  generalize lss[j] = ls at *
  have HU := Lib.hid hu
  clear hu hs hS hj
  have d0 : decide ((j : Int) < 0) = false := decide_eq_false (by omega)
  have d1 : decide (n ≤ j) = false := decide_eq_false (by omega)
  have e1 : decide (l < 1) = false := decide_eq_false h0
  have e2 : decide ((ls.length : Int) < l) = true := decide_eq_true h
  go_enter Tryd.func28, Tryd.ntmps28
  go_wp2_with fail
  go_ret
  exact check_mk HR.out (below_box _ _)
set_option maxRecDepth 100000 in
set_option maxHeartbeats 2000000 in
theorem check_del_ok (A : Option Addr) (n cc j : Nat) (ve : Value) (lss : List (List (List UInt8))) (es : List Ed) (l : Int) (w : World) (hL : LL w w.heap.size (.slice A n cc) lss) (hn : n = lss.length) (hj : j < lss.length) (hS : Short lss) (hE : EL w w.heap.size ve es) (hel : es.length ≤ 1000000000) (h0 : ¬ l < 1) (h : ¬ (lss[j].length : Int) < l) :
    Calls Tryd.prog 28 #[.slice A n cc, ve, .agg #[.int .i64 j, .int .i64 l, .int .i64 1, .string ⟨#[]⟩]] w (CheckPost (checkErr lss es ⟨j, l, 1, []⟩) w) := by
  have HR : Hid (checkErr lss es ⟨j, l, 1, []⟩ = (if es.any (clash ⟨j, l, 1, []⟩) = true then 6 else 0)) := Lib.hid ((check_at rfl hj).trans (by unfold checkIn; rw [if_neg (by simp), if_neg (by simp), if_neg (by unfold lastLine; rw [if_neg (by simp)]; simp [printB]; omega), if_neg (by simp), if_neg (by simp)]))
  obtain ⟨g, o, u, eA, hg, c1, hs⟩ := hL.at hj
  have hls := (hS _ (List.getElem_mem hj)).1
  have hjn : j < n := by omega
  clear hL hn
  subst eA
  obtain ⟨Au, cu, rfl, hcu, hub, hu⟩ := hs.form
  have HLL := Lib.hid (hS _ (List.getElem_mem hj)).2
  generalize lss[j] = ls at *
  have HU := Lib.hid hu
  clear hu hs hS hj
  have d0 : decide ((j : Int) < 0) = false := decide_eq_false (by omega)
  have d1 : decide (n ≤ j) = false := decide_eq_false (by omega)
  have HP : Hid (∀ w', Calls Tryd.prog 39 #[.string ⟨#[]⟩] w' fun e w'' => e = .returned (.bool true) ∧ w' = w'') := Lib.hid (fun w' => printable_any ⟨#[]⟩ w' (by decide))
  have e1 : decide (l < 1) = false := decide_eq_false h0
  have e2 : decide ((ls.length : Int) < l) = false := decide_eq_false h
  obtain ⟨Ae, ce, rfl, hce, heb⟩ := hE.form
  have HE := Lib.hid hE
  clear hE
  go_enter Tryd.func28, Tryd.ntmps28
  go_wp2_with fail
  refine (HP.out _).mono ?_
  rintro e w' ⟨rfl, rfl⟩
  obtain ⟨B0, B1, _, _⟩ := box4_cells w (.int .i64 j) (.int .i64 l) (.int .i64 1) (.string ⟨#[]⟩) 32
  have BB := below_box w (.cells #[.int .i64 j, .int .i64 l, .int .i64 1, .string ⟨#[]⟩] 32)
  have BZ : w.heap.size + 1 ≤ (w.alloc (.cells #[.int .i64 j, .int .i64 l, .int .i64 1, .string ⟨#[]⟩] 32)).heap.size := by simp
  go_wp2_with fail
  have HC := Lib.hid (fun (q : Nat) (h : q < es.length) => any_step (x := ⟨j, l, 1, []⟩) h)
  have HX0 : Hid (es.any (clash ⟨j, l, 1, []⟩) = (es.drop 0).any (clash ⟨j, l, 1, []⟩)) := Lib.hid (by rw [List.drop_zero])
  go_loopw [12, 75] (fun _ ix wr => ∃ q : Nat, q ≤ es.length ∧ ix = .int .i64 q ∧ wr.cell? ⟨w.heap.size, 0, none⟩ = some (.int .i64 j) ∧ wr.cell? ⟨w.heap.size, 1, none⟩ = some (.int .i64 l) ∧ w.heap.size + 1 ≤ wr.heap.size ∧ Below w.heap.size w wr ∧ Hid (es.any (clash ⟨j, l, 1, []⟩) = (es.drop q).any (clash ⟨j, l, 1, []⟩))) (fun _ ix _ => es.length - (intOf ix).toNat)
  case atStart => exact ⟨0, by omega, rfl, B0, B1, BZ, BB, HX0⟩
  case round =>
    clear B0 B1 BZ BB HX0
    obtain ⟨q, hq, rfl, b0, b1, hz, hb, H⟩ := hrel
    by_cases hlt : q < es.length
    · obtain ⟨ge, oe, eE, hge, x0, x1, x2, x3⟩ := (HE.out.below hb).at hlt
      have E := Lib.hid (HC.out q hlt)
      generalize es[q] = y at x0 x1 x2 x3 E
      obtain ⟨yc, yl, yk, yt⟩ := y
      simp only at x0 x1 x2 x3
      unfold strV at x3
      subst eE
      have b0' : ∀ o, (wr.alloc o).cell? ⟨w.heap.size, 0, none⟩ = some (.int .i64 j) := fun o => box_keep hz b0
      have b1' : ∀ o, (wr.alloc o).cell? ⟨w.heap.size, 1, none⟩ = some (.int .i64 l) := fun o => box_keep hz b1
      cases h1 : (yk != 3) with
      | false =>
        have HN : Hid (clash ⟨j, l, 1, []⟩ ⟨yc, yl, yk, yt⟩ = false) := Lib.hid (by simp at h1; simp [clash, h1])
        go_wp2_with fail
        go_roundw
        case rel => exact ⟨q + 1, by omega, by go_num, box_keep hz b0, box_keep hz b1, (box_size hz), (box_below hz hb), Lib.hid (by rw [H.out, E.out, HN.out]; rfl)⟩
        case measure => simp [intOf]; omega
      | true =>
        cases h2 : (yc == (j : Int)) with
        | false =>
          have HN : Hid (clash ⟨j, l, 1, []⟩ ⟨yc, yl, yk, yt⟩ = false) := Lib.hid (by simp at h2; simp [clash, h2])
          go_wp2_with fail
          go_roundw
          case rel => exact ⟨q + 1, by omega, by go_num, box_keep hz b0, box_keep hz b1, (box_size hz), (box_below hz hb), Lib.hid (by rw [H.out, E.out, HN.out]; rfl)⟩
          case measure => simp [intOf]; omega
        | true =>
          cases h3 : (yl == l) with
          | false =>
            have HN : Hid (clash ⟨j, l, 1, []⟩ ⟨yc, yl, yk, yt⟩ = false) := Lib.hid (by simp at h3; simp [clash, h3])
            go_wp2_with fail
            go_roundw
            case rel => exact ⟨q + 1, by omega, by go_num, box_keep hz b0, box_keep hz b1, (box_size hz), (box_below hz hb), Lib.hid (by rw [H.out, E.out, HN.out]; rfl)⟩
            case measure => simp [intOf]; omega
          | true =>
            have HN : Hid (es.any (clash ⟨j, l, 1, []⟩) = true) := Lib.hid (by simp at h1 h2 h3; rw [H.out, E.out]; simp [clash, h1, h2, h3])
            clear H E
            go_wp2_with fail
            go_ret
            exact check_mk (by rw [HR.out, HN.out]; rfl) ((box_below hz hb))
    · have HN : Hid (es.any (clash ⟨j, l, 1, []⟩) = false) := Lib.hid (by rw [H.out, List.drop_eq_nil_of_le (by omega)]; rfl)
      go_wp2_with fail
      go_ret
      exact check_mk (by rw [HR.out, HN.out]; rfl) hb
set_option maxRecDepth 100000 in
set_option maxHeartbeats 2000000 in
theorem check_flp_no (A : Option Addr) (n cc j : Nat) (ve : Value) (lss : List (List (List UInt8))) (es : List Ed) (l : Int) (w : World) (hL : LL w w.heap.size (.slice A n cc) lss) (hn : n = lss.length) (hj : j < lss.length) (hS : Short lss) (hM : MaxCell w) (h0 : ¬ l < 1) (h : ¬ (lss[j].length : Int) < l) (hf : flipI lss[j] (l - 1) = none) :
    Calls Tryd.prog 28 #[.slice A n cc, ve, .agg #[.int .i64 j, .int .i64 l, .int .i64 2, .string ⟨#[]⟩]] w (CheckPost (checkErr lss es ⟨j, l, 2, []⟩) w) := by
  have HR : Hid (checkErr lss es ⟨j, l, 2, []⟩ = 8) := Lib.hid ((check_at rfl hj).trans (by unfold checkIn; rw [if_neg (by simp), if_neg (by simp), if_neg (by unfold lastLine; rw [if_neg (by simp)]; simp [printB]; omega), if_neg (by simp), if_pos ⟨rfl, hf⟩]))
  obtain ⟨g, o, u, eA, hg, c1, hs⟩ := hL.at hj
  have hls := (hS _ (List.getElem_mem hj)).1
  have hjn : j < n := by omega
  clear hL hn
  subst eA
  obtain ⟨Au, cu, rfl, hcu, hub, hu⟩ := hs.form
  have HLL := Lib.hid (hS _ (List.getElem_mem hj)).2
  generalize lss[j] = ls at *
  have HU := Lib.hid hu
  clear hu hs hS hj
  have d0 : decide ((j : Int) < 0) = false := decide_eq_false (by omega)
  have d1 : decide (n ≤ j) = false := decide_eq_false (by omega)
  have HP : Hid (∀ w', Calls Tryd.prog 39 #[.string ⟨#[]⟩] w' fun e w'' => e = .returned (.bool true) ∧ w' = w'') := Lib.hid (fun w' => printable_any ⟨#[]⟩ w' (by decide))
  have e1 : decide (l < 1) = false := decide_eq_false h0
  have e2 : decide ((ls.length : Int) < l) = false := decide_eq_false h
  have HF := Lib.hid hf
  have HM := Lib.hid hM
  clear hf hM
  go_enter Tryd.func28, Tryd.ntmps28
  go_wp2_with fail
  refine (HP.out _).mono ?_
  rintro e w' ⟨rfl, rfl⟩
  go_wp2_with fail
  refine (flip_any _ _ _ ls _ _ ((HU.out.below (below_box w _)).mono (below_box w _).size) rfl HLL.out (HM.out.below (below_box w _)) hcu).mono ?_
  rintro e w1 ⟨rfl, hb1⟩
  rw [HF.out]
  obtain ⟨B0, B1, _, _⟩ := box4_cells w (.int .i64 j) (.int .i64 l) (.int .i64 2) (.string ⟨#[]⟩) 32
  have BB := (below_box w (.cells #[.int .i64 j, .int .i64 l, .int .i64 2, .string ⟨#[]⟩] 32)).trans (hb1.mono (below_box w _).size)
  clear B0 B1
  unfold flipV
  simp only [Option.getD_none, Option.isSome_none]
  go_wp2_with fail
  go_ret
  exact check_mk HR.out BB
set_option maxRecDepth 100000 in
set_option maxHeartbeats 2000000 in
theorem check_flp_ok (A : Option Addr) (n cc j : Nat) (ve : Value) (lss : List (List (List UInt8))) (es : List Ed) (l : Int) (w : World) (hL : LL w w.heap.size (.slice A n cc) lss) (hn : n = lss.length) (hj : j < lss.length) (hS : Short lss) (hE : EL w w.heap.size ve es) (hel : es.length ≤ 1000000000) (hM : MaxCell w) (h0 : ¬ l < 1) (h : ¬ (lss[j].length : Int) < l) (r : List UInt8) (hf : flipI lss[j] (l - 1) = some r) :
    Calls Tryd.prog 28 #[.slice A n cc, ve, .agg #[.int .i64 j, .int .i64 l, .int .i64 2, .string ⟨#[]⟩]] w (CheckPost (checkErr lss es ⟨j, l, 2, []⟩) w) := by
  have HR : Hid (checkErr lss es ⟨j, l, 2, []⟩ = (if es.any (clash ⟨j, l, 2, []⟩) = true then 6 else 0)) := Lib.hid ((check_at rfl hj).trans (by unfold checkIn; rw [if_neg (by simp), if_neg (by simp), if_neg (by unfold lastLine; rw [if_neg (by simp)]; simp [printB]; omega), if_neg (by simp), if_neg (by simp [hf])]))
  obtain ⟨g, o, u, eA, hg, c1, hs⟩ := hL.at hj
  have hls := (hS _ (List.getElem_mem hj)).1
  have hjn : j < n := by omega
  clear hL hn
  subst eA
  obtain ⟨Au, cu, rfl, hcu, hub, hu⟩ := hs.form
  have HLL := Lib.hid (hS _ (List.getElem_mem hj)).2
  generalize lss[j] = ls at *
  have HU := Lib.hid hu
  clear hu hs hS hj
  have d0 : decide ((j : Int) < 0) = false := decide_eq_false (by omega)
  have d1 : decide (n ≤ j) = false := decide_eq_false (by omega)
  have HP : Hid (∀ w', Calls Tryd.prog 39 #[.string ⟨#[]⟩] w' fun e w'' => e = .returned (.bool true) ∧ w' = w'') := Lib.hid (fun w' => printable_any ⟨#[]⟩ w' (by decide))
  have e1 : decide (l < 1) = false := decide_eq_false h0
  have e2 : decide ((ls.length : Int) < l) = false := decide_eq_false h
  obtain ⟨Ae, ce, rfl, hce, heb⟩ := hE.form
  have HE := Lib.hid hE
  clear hE
  have HF := Lib.hid hf
  have HM := Lib.hid hM
  clear hf hM
  go_enter Tryd.func28, Tryd.ntmps28
  go_wp2_with fail
  refine (HP.out _).mono ?_
  rintro e w' ⟨rfl, rfl⟩
  go_wp2_with fail
  refine (flip_any _ _ _ ls _ _ ((HU.out.below (below_box w _)).mono (below_box w _).size) rfl HLL.out (HM.out.below (below_box w _)) hcu).mono ?_
  rintro e w1 ⟨rfl, hb1⟩
  rw [HF.out]
  obtain ⟨B0, B1, _, _⟩ := box4_cells w (.int .i64 j) (.int .i64 l) (.int .i64 2) (.string ⟨#[]⟩) 32
  have BB := (below_box w (.cells #[.int .i64 j, .int .i64 l, .int .i64 2, .string ⟨#[]⟩] 32)).trans (hb1.mono (below_box w _).size)
  replace B0 := (hb1.cell (World.block_lt_of_cell? _ _ B0)).trans B0
  replace B1 := (hb1.cell (World.block_lt_of_cell? _ _ B1)).trans B1
  have BZ : w.heap.size + 1 ≤ w1.heap.size := by have := hb1.size; simpa using this
  unfold flipV
  simp only [Option.getD_some, Option.isSome_some]
  go_wp2_with fail
  have HC := Lib.hid (fun (q : Nat) (h : q < es.length) => any_step (x := ⟨j, l, 2, []⟩) h)
  have HX0 : Hid (es.any (clash ⟨j, l, 2, []⟩) = (es.drop 0).any (clash ⟨j, l, 2, []⟩)) := Lib.hid (by rw [List.drop_zero])
  go_loopw [12, 75] (fun _ ix wr => ∃ q : Nat, q ≤ es.length ∧ ix = .int .i64 q ∧ wr.cell? ⟨w.heap.size, 0, none⟩ = some (.int .i64 j) ∧ wr.cell? ⟨w.heap.size, 1, none⟩ = some (.int .i64 l) ∧ w.heap.size + 1 ≤ wr.heap.size ∧ Below w.heap.size w wr ∧ Hid (es.any (clash ⟨j, l, 2, []⟩) = (es.drop q).any (clash ⟨j, l, 2, []⟩))) (fun _ ix _ => es.length - (intOf ix).toNat)
  case atStart => exact ⟨0, by omega, rfl, B0, B1, BZ, BB, HX0⟩
  case round =>
    clear B0 B1 BZ BB HX0
    obtain ⟨q, hq, rfl, b0, b1, hz, hb, H⟩ := hrel
    by_cases hlt : q < es.length
    · obtain ⟨ge, oe, eE, hge, x0, x1, x2, x3⟩ := (HE.out.below hb).at hlt
      have E := Lib.hid (HC.out q hlt)
      generalize es[q] = y at x0 x1 x2 x3 E
      obtain ⟨yc, yl, yk, yt⟩ := y
      simp only at x0 x1 x2 x3
      unfold strV at x3
      subst eE
      have b0' : ∀ o, (wr.alloc o).cell? ⟨w.heap.size, 0, none⟩ = some (.int .i64 j) := fun o => box_keep hz b0
      have b1' : ∀ o, (wr.alloc o).cell? ⟨w.heap.size, 1, none⟩ = some (.int .i64 l) := fun o => box_keep hz b1
      cases h1 : (yk != 3) with
      | false =>
        have HN : Hid (clash ⟨j, l, 2, []⟩ ⟨yc, yl, yk, yt⟩ = false) := Lib.hid (by simp at h1; simp [clash, h1])
        go_wp2_with fail
        go_roundw
        case rel => exact ⟨q + 1, by omega, by go_num, box_keep hz b0, box_keep hz b1, (box_size hz), (box_below hz hb), Lib.hid (by rw [H.out, E.out, HN.out]; rfl)⟩
        case measure => simp [intOf]; omega
      | true =>
        cases h2 : (yc == (j : Int)) with
        | false =>
          have HN : Hid (clash ⟨j, l, 2, []⟩ ⟨yc, yl, yk, yt⟩ = false) := Lib.hid (by simp at h2; simp [clash, h2])
          go_wp2_with fail
          go_roundw
          case rel => exact ⟨q + 1, by omega, by go_num, box_keep hz b0, box_keep hz b1, (box_size hz), (box_below hz hb), Lib.hid (by rw [H.out, E.out, HN.out]; rfl)⟩
          case measure => simp [intOf]; omega
        | true =>
          cases h3 : (yl == l) with
          | false =>
            have HN : Hid (clash ⟨j, l, 2, []⟩ ⟨yc, yl, yk, yt⟩ = false) := Lib.hid (by simp at h3; simp [clash, h3])
            go_wp2_with fail
            go_roundw
            case rel => exact ⟨q + 1, by omega, by go_num, box_keep hz b0, box_keep hz b1, (box_size hz), (box_below hz hb), Lib.hid (by rw [H.out, E.out, HN.out]; rfl)⟩
            case measure => simp [intOf]; omega
          | true =>
            have HN : Hid (es.any (clash ⟨j, l, 2, []⟩) = true) := Lib.hid (by simp at h1 h2 h3; rw [H.out, E.out]; simp [clash, h1, h2, h3])
            clear H E
            go_wp2_with fail
            go_ret
            exact check_mk (by rw [HR.out, HN.out]; rfl) ((box_below hz hb))
    · have HN : Hid (es.any (clash ⟨j, l, 2, []⟩) = false) := Lib.hid (by rw [H.out, List.drop_eq_nil_of_le (by omega)]; rfl)
      go_wp2_with fail
      go_ret
      exact check_mk (by rw [HR.out, HN.out]; rfl) hb

theorem check_any (vl ve : Value) (lss : List (List (List UInt8))) (es : List Ed) (x : Ed) (w : World) (hL : LL w w.heap.size vl lss) (hE : EL w w.heap.size ve es) (hel : es.length ≤ 1000000000) (hS : Short lss) (hM : MaxCell w) (ht : x.text.length ≤ 1000000000) :
    Calls Tryd.prog 28 #[vl, ve, edV x] w (CheckPost (checkErr lss es x) w) := by
  obtain ⟨c, l, k, t⟩ := x
  obtain ⟨t, rfl⟩ : ∃ s : ByteArray, bytes s = t := ⟨str t, bytes_str t⟩
  unfold edV strV
  simp only at ht ⊢
  rw [str_bytes]
  rw [bytes_len] at ht
  obtain ⟨A, cc, rfl⟩ := hL.form
  by_cases h0 : c < 0 ∨ (lss.length : Int) ≤ c
  · exact check_out A _ cc ve lss es c l k t w rfl h0
  obtain ⟨j, rfl⟩ : ∃ j : Nat, c = j := ⟨c.toNat, by omega⟩
  have hj : j < lss.length := by omega
  by_cases hk : k = 1 ∨ k = 2 ∨ k = 3
  case neg => exact check_kind A _ cc j ve lss es l k t w hL rfl hj hS hk
  by_cases hk3 : k = 3
  · subst hk3
    by_cases h1 : l < 1
    · exact check_ins_lo A _ cc j ve lss es l t w hL rfl hj hS h1
    by_cases h2 : (lss[j].length : Int) + 1 < l
    · exact check_ins_hi A _ cc j ve lss es l t w hL rfl hj hS h1 h2
    cases hp : printB (bytes t) with
    | false => exact check_ins_bad A _ cc j ve lss es l t w hL rfl hj hS ht h1 h2 hp
    | true => exact check_ins_ok A _ cc j ve lss es l t w hL rfl hj hS ht h1 h2 hp
  by_cases htt : bytes t = []
  case neg =>
    rcases hk with rfl | rfl | rfl
    · exact check_del_text A _ cc j ve lss es l t w hL rfl hj hS htt
    · exact check_flp_text A _ cc j ve lss es l t w hL rfl hj hS htt
    · exact absurd rfl hk3
  obtain rfl : t = ⟨#[]⟩ := by rw [← str_bytes t, htt]; rfl
  clear htt
  by_cases h1 : l < 1
  · rcases hk with rfl | rfl | rfl
    · exact check_del_lo A _ cc j ve lss es l w hL rfl hj hS h1
    · exact check_flp_lo A _ cc j ve lss es l w hL rfl hj hS h1
    · exact absurd rfl hk3
  by_cases h2 : (lss[j].length : Int) < l
  · rcases hk with rfl | rfl | rfl
    · exact check_del_hi A _ cc j ve lss es l w hL rfl hj hS h1 h2
    · exact check_flp_hi A _ cc j ve lss es l w hL rfl hj hS h1 h2
    · exact absurd rfl hk3
  rcases hk with rfl | rfl | rfl
  · exact check_del_ok A _ cc j ve lss es l w hL rfl hj hS hE hel h1 h2
  · cases hf : flipI lss[j] (l - 1) with
    | none => exact check_flp_no A _ cc j ve lss es l w hL rfl hj hS hM h1 h2 hf
    | some r => exact check_flp_ok A _ cc j ve lss es l w hL rfl hj hS hE hel hM h1 h2 r hf
  · exact absurd rfl hk3
end Go.Proofs.YtpclacofcfbpjaaDoor
