/- The walk of the reference's check. Conditions: at most 10^9 texts and edits, lines of at most 10^9 bytes. -/
import Derived.Test.YtpclacofcfbpjaaDoorEditM
namespace Go.Proofs.YtpclacofcfbpjaaDoor
open Go.RowKit

theorem clash_ins {l : List Ed} {x : Ed} (h : x.kind = 3) (ls : List (List UInt8)) (hl : ¬ (x.line < 1 ∨ lastLine ls x.kind < x.line ∨ printB x.text = false)) : checkIn ls l x = 0 := by
  unfold checkIn
  rw [if_neg (by omega), if_neg (by simp [h]), if_neg hl, if_pos h]
theorem clash_eq {x : Ed} {j : Nat} {kk : Int} (hc : x.cfg = j) : clash x = clash ⟨j, x.line, kk, []⟩ := by funext y; simp [clash, hc]
theorem checkIn_one {ls : List (List UInt8)} {l : List Ed} {x : Ed} (hk : x.kind = 1 ∨ x.kind = 2 ∨ x.kind = 3) (h : x.line < 1 ∨ lastLine ls x.kind < x.line ∨ printB x.text = false) : checkIn ls l x = 1 := by
  unfold checkIn
  rw [if_neg (by omega)]
  by_cases h2 : ¬ x.kind = 3 ∧ ¬ x.text = []
  · rw [if_pos h2]
  · rw [if_neg h2, if_pos h]
theorem keep4c {z b g o : Nat} {w0 w w' : World} {v0 v1 v2 v3 : Value}
    (h : w.cell? ⟨b, 0, none⟩ = some v0 ∧ w.cell? ⟨b, 1, none⟩ = some v1 ∧ w.cell? ⟨b, 2, none⟩ = some v2 ∧ w.cell? ⟨g, o, none⟩ = some v3 ∧ z ≤ w.heap.size ∧ Below z w0 w) (hb : Below w.heap.size w w') :
    w'.cell? ⟨b, 0, none⟩ = some v0 ∧ w'.cell? ⟨b, 1, none⟩ = some v1 ∧ w'.cell? ⟨b, 2, none⟩ = some v2 ∧ w'.cell? ⟨g, o, none⟩ = some v3 ∧ z ≤ w'.heap.size ∧ Below z w0 w' := by
  obtain ⟨h1, h2, h3, h4, h5, h6⟩ := h
  exact ⟨(hb.cell (World.block_lt_of_cell? _ _ h1)).trans h1, (hb.cell (World.block_lt_of_cell? _ _ h2)).trans h2, (hb.cell (World.block_lt_of_cell? _ _ h3)).trans h3, (hb.cell (World.block_lt_of_cell? _ _ h4)).trans h4, Nat.le_trans h5 hb.size, h6.trans (hb.mono h5)⟩
theorem drewN_cell (w : World) (q : Nat) (a : Addr) : (w.drewN q).cell? a = w.cell? a := rfl
theorem drewN_size (w : World) (q : Nat) : (w.drewN q).heap.size = w.heap.size := rfl
theorem drewN_keep {w0 w : World} {z : Nat} (q : Nat) (h : Below z w0 w) (hz : z ≤ w.heap.size) : Below z w0 (w.drewN q) := h.trans ((drewN_below w q).mono hz)

set_option maxRecDepth 100000 in
set_option maxHeartbeats 2000000 in
theorem rcheck_neg (A Ae : Option Addr) (n cc ce i : Nat) (lss : List (List (List UInt8))) (es : List Ed) (x : Ed) (w : World) (hE : EL w w.heap.size (.slice Ae es.length ce) es) (_ : es.length ≤ 1000000000) (hi : i < es.length) (hx : es[i] = x) (h : x.cfg < 0) :
    Calls Tryd.prog 30 #[.slice A n cc, .slice Ae es.length ce, .int .i64 i] w (CheckPost (checkErr lss (es.take i) x) w) := by
  have HR : Hid (checkErr lss (es.take i) x = 1) := Lib.hid (by unfold checkErr; rw [if_pos h])
  obtain ⟨ge, oe, eE, hge, x0, x1, x2, x3⟩ := hE.at hi
  rw [hx] at x0 x1 x2 x3
  have HE := Lib.hid hE
  clear hE hx
  subst eE
  obtain ⟨c, l, k, t⟩ := x
  obtain ⟨t, rfl⟩ : ∃ s : ByteArray, bytes s = t := ⟨str t, bytes_str t⟩
  simp only at x0 x1 x2 x3 HR h
  unfold strV at x3
  rw [str_bytes] at x3
  have hi2 : (i : Int) < es.length := by omega
  have d0 : decide (c < 0) = true := decide_eq_true h
  go_enter Tryd.func30, Tryd.ntmps30
  go_wp2_with fail
  go_ret
  exact check_mk HR.out (below_box _ _)
set_option maxRecDepth 100000 in
set_option maxHeartbeats 2000000 in
theorem rcheck_big (A Ae : Option Addr) (n cc ce i : Nat) (lss : List (List (List UInt8))) (es : List Ed) (x : Ed) (w : World) (hE : EL w w.heap.size (.slice Ae es.length ce) es) (_ : es.length ≤ 1000000000) (hi : i < es.length) (hx : es[i] = x) (hn : n = lss.length) (h0 : ¬ x.cfg < 0) (h : (n : Int) ≤ x.cfg) :
    Calls Tryd.prog 30 #[.slice A n cc, .slice Ae es.length ce, .int .i64 i] w (CheckPost (checkErr lss (es.take i) x) w) := by
  have HR : Hid (checkErr lss (es.take i) x = 1) := Lib.hid (by unfold checkErr; rw [if_neg h0, List.getElem?_eq_none (by omega)])
  clear hn
  obtain ⟨ge, oe, eE, hge, x0, x1, x2, x3⟩ := hE.at hi
  rw [hx] at x0 x1 x2 x3
  have HE := Lib.hid hE
  clear hE hx
  subst eE
  obtain ⟨c, l, k, t⟩ := x
  obtain ⟨t, rfl⟩ : ∃ s : ByteArray, bytes s = t := ⟨str t, bytes_str t⟩
  simp only at x0 x1 x2 x3 HR h0 h
  unfold strV at x3
  rw [str_bytes] at x3
  have hi2 : (i : Int) < es.length := by omega
  have d0 : decide (c < 0) = false := decide_eq_false h0
  have d1 : decide ((n : Int) ≤ c) = true := decide_eq_true h
  go_enter Tryd.func30, Tryd.ntmps30
  go_wp2_with fail
  go_ret
  exact check_mk HR.out (below_box _ _)
set_option maxRecDepth 100000 in
set_option maxHeartbeats 2000000 in
theorem rcheck_k0 (A Ae : Option Addr) (n cc ce i : Nat) (lss : List (List (List UInt8))) (es : List Ed) (x : Ed) (w : World) (hE : EL w w.heap.size (.slice Ae es.length ce) es) (_ : es.length ≤ 1000000000) (hi : i < es.length) (hx : es[i] = x) (j : Nat) (hL : LL w w.heap.size (.slice A n cc) lss) (hn : n = lss.length) (hj : j < lss.length) (hS : Short lss) (hc : x.cfg = j) (h : x.kind < 1) :
    Calls Tryd.prog 30 #[.slice A n cc, .slice Ae es.length ce, .int .i64 i] w (CheckPost (checkErr lss (es.take i) x) w) := by
  have HR : Hid (checkErr lss (es.take i) x = 1) := Lib.hid ((check_at hc hj).trans (by unfold checkIn; rw [if_pos (by omega)]))
  obtain ⟨ge, oe, eE, hge, x0, x1, x2, x3⟩ := hE.at hi
  rw [hx] at x0 x1 x2 x3
  have HE := Lib.hid hE
  clear hE hx
  subst eE
  obtain ⟨c, l, k, t⟩ := x
  obtain ⟨t, rfl⟩ : ∃ s : ByteArray, bytes s = t := ⟨str t, bytes_str t⟩
  simp only at x0 x1 x2 x3 HR hc h
  unfold strV at x3
  rw [str_bytes] at x3
  have hi2 : (i : Int) < es.length := by omega
  subst hc
  obtain ⟨g, o, u, eA, hg, c1, hs⟩ := hL.at hj
  have hls := (hS _ (List.getElem_mem hj)).1
  have hjn : j < n := by omega
  clear hL hn
  subst eA
  obtain ⟨Au, cu, rfl, hcu, hub, hu⟩ := hs.form
  have HLL := Lib.hid (hS _ (List.getElem_mem hj)).2
  generalize lss[j] = ls at *
  have HU := Lib.hid hu
  clear hu hs hS hj
  have d0 : decide ((j : Int) < 0) = false := decide_eq_false (by omega)
  have d1 : decide (n ≤ j) = false := decide_eq_false (by omega)
  have e1 : decide (k < 1) = true := decide_eq_true h
  go_enter Tryd.func30, Tryd.ntmps30
  go_wp2_with fail
  go_ret
  exact check_mk HR.out (below_box _ _)
set_option maxRecDepth 100000 in
set_option maxHeartbeats 2000000 in
theorem rcheck_k4 (A Ae : Option Addr) (n cc ce i : Nat) (lss : List (List (List UInt8))) (es : List Ed) (x : Ed) (w : World) (hE : EL w w.heap.size (.slice Ae es.length ce) es) (_ : es.length ≤ 1000000000) (hi : i < es.length) (hx : es[i] = x) (j : Nat) (hL : LL w w.heap.size (.slice A n cc) lss) (hn : n = lss.length) (hj : j < lss.length) (hS : Short lss) (hc : x.cfg = j) (h : 3 < x.kind) :
    Calls Tryd.prog 30 #[.slice A n cc, .slice Ae es.length ce, .int .i64 i] w (CheckPost (checkErr lss (es.take i) x) w) := by
  have HR : Hid (checkErr lss (es.take i) x = 1) := Lib.hid ((check_at hc hj).trans (by unfold checkIn; rw [if_pos (by omega)]))
  obtain ⟨ge, oe, eE, hge, x0, x1, x2, x3⟩ := hE.at hi
  rw [hx] at x0 x1 x2 x3
  have HE := Lib.hid hE
  clear hE hx
  subst eE
  obtain ⟨c, l, k, t⟩ := x
  obtain ⟨t, rfl⟩ : ∃ s : ByteArray, bytes s = t := ⟨str t, bytes_str t⟩
  simp only at x0 x1 x2 x3 HR hc h
  unfold strV at x3
  rw [str_bytes] at x3
  have hi2 : (i : Int) < es.length := by omega
  subst hc
  obtain ⟨g, o, u, eA, hg, c1, hs⟩ := hL.at hj
  have hls := (hS _ (List.getElem_mem hj)).1
  have hjn : j < n := by omega
  clear hL hn
  subst eA
  obtain ⟨Au, cu, rfl, hcu, hub, hu⟩ := hs.form
  have HLL := Lib.hid (hS _ (List.getElem_mem hj)).2
  generalize lss[j] = ls at *
  have HU := Lib.hid hu
  clear hu hs hS hj
  have d0 : decide ((j : Int) < 0) = false := decide_eq_false (by omega)
  have d1 : decide (n ≤ j) = false := decide_eq_false (by omega)
  have e1 : decide (k < 1) = false := decide_eq_false (by omega)
  have e2 : decide (3 < k) = true := decide_eq_true h
  go_enter Tryd.func30, Tryd.ntmps30
  go_wp2_with fail
  go_ret
  exact check_mk HR.out (below_box _ _)
set_option maxRecDepth 100000 in
set_option maxHeartbeats 2000000 in
theorem rcheck_del_lo (A Ae : Option Addr) (n cc ce i : Nat) (lss : List (List (List UInt8))) (es : List Ed) (x : Ed) (w : World) (hE : EL w w.heap.size (.slice Ae es.length ce) es) (_ : es.length ≤ 1000000000) (hi : i < es.length) (hx : es[i] = x) (j : Nat) (hL : LL w w.heap.size (.slice A n cc) lss) (hn : n = lss.length) (hj : j < lss.length) (hS : Short lss) (hc : x.cfg = j) (hk : x.kind = 1) (h : x.line < 1) :
    Calls Tryd.prog 30 #[.slice A n cc, .slice Ae es.length ce, .int .i64 i] w (CheckPost (checkErr lss (es.take i) x) w) := by
  have HR : Hid (checkErr lss (es.take i) x = 1) := Lib.hid ((check_at hc hj).trans (by exact checkIn_one (by omega) (.inl h)))
  obtain ⟨ge, oe, eE, hge, x0, x1, x2, x3⟩ := hE.at hi
  rw [hx] at x0 x1 x2 x3
  have HE := Lib.hid hE
  clear hE hx
  subst eE
  obtain ⟨c, l, k, t⟩ := x
  obtain ⟨t, rfl⟩ : ∃ s : ByteArray, bytes s = t := ⟨str t, bytes_str t⟩
  simp only at x0 x1 x2 x3 HR hc hk h
  unfold strV at x3
  rw [str_bytes] at x3
  have hi2 : (i : Int) < es.length := by omega
  subst hc
  obtain ⟨g, o, u, eA, hg, c1, hs⟩ := hL.at hj
  have hls := (hS _ (List.getElem_mem hj)).1
  have hjn : j < n := by omega
  clear hL hn
  subst eA
  obtain ⟨Au, cu, rfl, hcu, hub, hu⟩ := hs.form
  have HLL := Lib.hid (hS _ (List.getElem_mem hj)).2
  generalize lss[j] = ls at *
  have HU := Lib.hid hu
  clear hu hs hS hj
  have d0 : decide ((j : Int) < 0) = false := decide_eq_false (by omega)
  have d1 : decide (n ≤ j) = false := decide_eq_false (by omega)
  subst hk
  have e1 : decide (l < 1) = true := decide_eq_true h
  go_enter Tryd.func30, Tryd.ntmps30
  go_wp2_with fail
  go_ret
  exact check_mk HR.out (below_box _ _)
set_option maxRecDepth 100000 in
set_option maxHeartbeats 2000000 in
theorem rcheck_del_hi (A Ae : Option Addr) (n cc ce i : Nat) (lss : List (List (List UInt8))) (es : List Ed) (x : Ed) (w : World) (hE : EL w w.heap.size (.slice Ae es.length ce) es) (_ : es.length ≤ 1000000000) (hi : i < es.length) (hx : es[i] = x) (j : Nat) (hL : LL w w.heap.size (.slice A n cc) lss) (hn : n = lss.length) (hj : j < lss.length) (hS : Short lss) (hc : x.cfg = j) (hk : x.kind = 1) (h0 : ¬ x.line < 1) (h : (lss[j].length : Int) < x.line) :
    Calls Tryd.prog 30 #[.slice A n cc, .slice Ae es.length ce, .int .i64 i] w (CheckPost (checkErr lss (es.take i) x) w) := by
  have HR : Hid (checkErr lss (es.take i) x = 1) := Lib.hid ((check_at hc hj).trans (by exact checkIn_one (by omega) (.inr (.inl (by unfold lastLine; rw [hk]; simpa using h)))))
  obtain ⟨ge, oe, eE, hge, x0, x1, x2, x3⟩ := hE.at hi
  rw [hx] at x0 x1 x2 x3
  have HE := Lib.hid hE
  clear hE hx
  subst eE
  obtain ⟨c, l, k, t⟩ := x
  obtain ⟨t, rfl⟩ : ∃ s : ByteArray, bytes s = t := ⟨str t, bytes_str t⟩
  simp only at x0 x1 x2 x3 HR hc hk h0 h
  unfold strV at x3
  rw [str_bytes] at x3
  have hi2 : (i : Int) < es.length := by omega
  subst hc
  obtain ⟨g, o, u, eA, hg, c1, hs⟩ := hL.at hj
  have hls := (hS _ (List.getElem_mem hj)).1
  have hjn : j < n := by omega
  clear hL hn
  subst eA
  obtain ⟨Au, cu, rfl, hcu, hub, hu⟩ := hs.form
  have HLL := Lib.hid (hS _ (List.getElem_mem hj)).2
  generalize lss[j] = ls at *
  have HU := Lib.hid hu
  clear hu hs hS hj
  have d0 : decide ((j : Int) < 0) = false := decide_eq_false (by omega)
  have d1 : decide (n ≤ j) = false := decide_eq_false (by omega)
  subst hk
  have e1 : decide (l < 1) = false := decide_eq_false h0
  have e2 : decide ((ls.length : Int) < l) = true := decide_eq_true h
  go_enter Tryd.func30, Tryd.ntmps30
  go_wp2_with fail
  go_ret
  exact check_mk HR.out (below_box _ _)
set_option maxRecDepth 100000 in
set_option maxHeartbeats 2000000 in
theorem rcheck_del_text (A Ae : Option Addr) (n cc ce i : Nat) (lss : List (List (List UInt8))) (es : List Ed) (x : Ed) (w : World) (hE : EL w w.heap.size (.slice Ae es.length ce) es) (_ : es.length ≤ 1000000000) (hi : i < es.length) (hx : es[i] = x) (j : Nat) (hL : LL w w.heap.size (.slice A n cc) lss) (hn : n = lss.length) (hj : j < lss.length) (hS : Short lss) (hc : x.cfg = j) (hk : x.kind = 1) (h0 : ¬ x.line < 1) (h : ¬ (lss[j].length : Int) < x.line) (htt : ¬ x.text = []) :
    Calls Tryd.prog 30 #[.slice A n cc, .slice Ae es.length ce, .int .i64 i] w (CheckPost (checkErr lss (es.take i) x) w) := by
  have HR : Hid (checkErr lss (es.take i) x = 1) := Lib.hid ((check_at hc hj).trans (by unfold checkIn; rw [if_neg (by omega), if_pos ⟨by omega, htt⟩]))
  obtain ⟨ge, oe, eE, hge, x0, x1, x2, x3⟩ := hE.at hi
  rw [hx] at x0 x1 x2 x3
  have HE := Lib.hid hE
  clear hE hx
  subst eE
  obtain ⟨c, l, k, t⟩ := x
  obtain ⟨t, rfl⟩ : ∃ s : ByteArray, bytes s = t := ⟨str t, bytes_str t⟩
  simp only at x0 x1 x2 x3 HR hc hk h0 h htt
  unfold strV at x3
  rw [str_bytes] at x3
  have hi2 : (i : Int) < es.length := by omega
  subst hc
  obtain ⟨g, o, u, eA, hg, c1, hs⟩ := hL.at hj
  have hls := (hS _ (List.getElem_mem hj)).1
  have hjn : j < n := by omega
  clear hL hn
  subst eA
  obtain ⟨Au, cu, rfl, hcu, hub, hu⟩ := hs.form
  have HLL := Lib.hid (hS _ (List.getElem_mem hj)).2
  generalize lss[j] = ls at *
  have HU := Lib.hid hu
  clear hu hs hS hj
  have d0 : decide ((j : Int) < 0) = false := decide_eq_false (by omega)
  have d1 : decide (n ≤ j) = false := decide_eq_false (by omega)
  subst hk
  have e1 : decide (l < 1) = false := decide_eq_false h0
  have e2 : decide ((ls.length : Int) < l) = false := decide_eq_false h
  have v1 : t.toList.isEmpty = false := by rw [toList_bytes]; simpa using htt
  have v2 : (t.toList == []) = false := by rw [toList_bytes]; exact beq_false_of_ne htt
  clear htt
  go_enter Tryd.func30, Tryd.ntmps30
  go_wp2_with fail
  go_ret
  exact check_mk HR.out (below_box _ _)
set_option maxRecDepth 100000 in
set_option maxHeartbeats 2000000 in
theorem rcheck_flp_lo (A Ae : Option Addr) (n cc ce i : Nat) (lss : List (List (List UInt8))) (es : List Ed) (x : Ed) (w : World) (hE : EL w w.heap.size (.slice Ae es.length ce) es) (_ : es.length ≤ 1000000000) (hi : i < es.length) (hx : es[i] = x) (j : Nat) (hL : LL w w.heap.size (.slice A n cc) lss) (hn : n = lss.length) (hj : j < lss.length) (hS : Short lss) (hc : x.cfg = j) (hk : x.kind = 2) (h : x.line < 1) :
    Calls Tryd.prog 30 #[.slice A n cc, .slice Ae es.length ce, .int .i64 i] w (CheckPost (checkErr lss (es.take i) x) w) := by
  have HR : Hid (checkErr lss (es.take i) x = 1) := Lib.hid ((check_at hc hj).trans (by exact checkIn_one (by omega) (.inl h)))
  obtain ⟨ge, oe, eE, hge, x0, x1, x2, x3⟩ := hE.at hi
  rw [hx] at x0 x1 x2 x3
  have HE := Lib.hid hE
  clear hE hx
  subst eE
  obtain ⟨c, l, k, t⟩ := x
  obtain ⟨t, rfl⟩ : ∃ s : ByteArray, bytes s = t := ⟨str t, bytes_str t⟩
  simp only at x0 x1 x2 x3 HR hc hk h
  unfold strV at x3
  rw [str_bytes] at x3
  have hi2 : (i : Int) < es.length := by omega
  subst hc
  obtain ⟨g, o, u, eA, hg, c1, hs⟩ := hL.at hj
  have hls := (hS _ (List.getElem_mem hj)).1
  have hjn : j < n := by omega
  clear hL hn
  subst eA
  obtain ⟨Au, cu, rfl, hcu, hub, hu⟩ := hs.form
  have HLL := Lib.hid (hS _ (List.getElem_mem hj)).2
  generalize lss[j] = ls at *
  have HU := Lib.hid hu
  clear hu hs hS hj
  have d0 : decide ((j : Int) < 0) = false := decide_eq_false (by omega)
  have d1 : decide (n ≤ j) = false := decide_eq_false (by omega)
  subst hk
  have e1 : decide (l < 1) = true := decide_eq_true h
  go_enter Tryd.func30, Tryd.ntmps30
  go_wp2_with fail
  go_ret
  exact check_mk HR.out (below_box _ _)
set_option maxRecDepth 100000 in
set_option maxHeartbeats 2000000 in
theorem rcheck_flp_hi (A Ae : Option Addr) (n cc ce i : Nat) (lss : List (List (List UInt8))) (es : List Ed) (x : Ed) (w : World) (hE : EL w w.heap.size (.slice Ae es.length ce) es) (_ : es.length ≤ 1000000000) (hi : i < es.length) (hx : es[i] = x) (j : Nat) (hL : LL w w.heap.size (.slice A n cc) lss) (hn : n = lss.length) (hj : j < lss.length) (hS : Short lss) (hc : x.cfg = j) (hk : x.kind = 2) (h0 : ¬ x.line < 1) (h : (lss[j].length : Int) < x.line) :
    Calls Tryd.prog 30 #[.slice A n cc, .slice Ae es.length ce, .int .i64 i] w (CheckPost (checkErr lss (es.take i) x) w) := by
  have HR : Hid (checkErr lss (es.take i) x = 1) := Lib.hid ((check_at hc hj).trans (by exact checkIn_one (by omega) (.inr (.inl (by unfold lastLine; rw [hk]; simpa using h)))))
  obtain ⟨ge, oe, eE, hge, x0, x1, x2, x3⟩ := hE.at hi
  rw [hx] at x0 x1 x2 x3
  have HE := Lib.hid hE
  clear hE hx
  subst eE
  obtain ⟨c, l, k, t⟩ := x
  obtain ⟨t, rfl⟩ : ∃ s : ByteArray, bytes s = t := ⟨str t, bytes_str t⟩
  simp only at x0 x1 x2 x3 HR hc hk h0 h
  unfold strV at x3
  rw [str_bytes] at x3
  have hi2 : (i : Int) < es.length := by omega
  subst hc
  obtain ⟨g, o, u, eA, hg, c1, hs⟩ := hL.at hj
  have hls := (hS _ (List.getElem_mem hj)).1
  have hjn : j < n := by omega
  clear hL hn
  subst eA
  obtain ⟨Au, cu, rfl, hcu, hub, hu⟩ := hs.form
  have HLL := Lib.hid (hS _ (List.getElem_mem hj)).2
  generalize lss[j] = ls at *
  have HU := Lib.hid hu
  clear hu hs hS hj
  have d0 : decide ((j : Int) < 0) = false := decide_eq_false (by omega)
  have d1 : decide (n ≤ j) = false := decide_eq_false (by omega)
  subst hk
  have e1 : decide (l < 1) = false := decide_eq_false h0
  have e2 : decide ((ls.length : Int) < l) = true := decide_eq_true h
  go_enter Tryd.func30, Tryd.ntmps30
  go_wp2_with fail
  go_ret
  exact check_mk HR.out (below_box _ _)
set_option maxRecDepth 100000 in
set_option maxHeartbeats 2000000 in
theorem rcheck_flp_text (A Ae : Option Addr) (n cc ce i : Nat) (lss : List (List (List UInt8))) (es : List Ed) (x : Ed) (w : World) (hE : EL w w.heap.size (.slice Ae es.length ce) es) (_ : es.length ≤ 1000000000) (hi : i < es.length) (hx : es[i] = x) (j : Nat) (hL : LL w w.heap.size (.slice A n cc) lss) (hn : n = lss.length) (hj : j < lss.length) (hS : Short lss) (hc : x.cfg = j) (hk : x.kind = 2) (h0 : ¬ x.line < 1) (h : ¬ (lss[j].length : Int) < x.line) (htt : ¬ x.text = []) :
    Calls Tryd.prog 30 #[.slice A n cc, .slice Ae es.length ce, .int .i64 i] w (CheckPost (checkErr lss (es.take i) x) w) := by
  have HR : Hid (checkErr lss (es.take i) x = 1) := Lib.hid ((check_at hc hj).trans (by unfold checkIn; rw [if_neg (by omega), if_pos ⟨by omega, htt⟩]))
  obtain ⟨ge, oe, eE, hge, x0, x1, x2, x3⟩ := hE.at hi
  rw [hx] at x0 x1 x2 x3
  have HE := Lib.hid hE
  clear hE hx
  subst eE
  obtain ⟨c, l, k, t⟩ := x
  obtain ⟨t, rfl⟩ : ∃ s : ByteArray, bytes s = t := ⟨str t, bytes_str t⟩
  simp only at x0 x1 x2 x3 HR hc hk h0 h htt
  unfold strV at x3
  rw [str_bytes] at x3
  have hi2 : (i : Int) < es.length := by omega
  subst hc
  obtain ⟨g, o, u, eA, hg, c1, hs⟩ := hL.at hj
  have hls := (hS _ (List.getElem_mem hj)).1
  have hjn : j < n := by omega
  clear hL hn
  subst eA
  obtain ⟨Au, cu, rfl, hcu, hub, hu⟩ := hs.form
  have HLL := Lib.hid (hS _ (List.getElem_mem hj)).2
  generalize lss[j] = ls at *
  have HU := Lib.hid hu
  clear hu hs hS hj
  have d0 : decide ((j : Int) < 0) = false := decide_eq_false (by omega)
  have d1 : decide (n ≤ j) = false := decide_eq_false (by omega)
  subst hk
  have e1 : decide (l < 1) = false := decide_eq_false h0
  have e2 : decide ((ls.length : Int) < l) = false := decide_eq_false h
  have v1 : t.toList.isEmpty = false := by rw [toList_bytes]; simpa using htt
  have v2 : (t.toList == []) = false := by rw [toList_bytes]; exact beq_false_of_ne htt
  clear htt
  go_enter Tryd.func30, Tryd.ntmps30
  go_wp2_with fail
  go_ret
  exact check_mk HR.out (below_box _ _)
set_option maxRecDepth 100000 in
set_option maxHeartbeats 2000000 in
theorem rcheck_ins_lo (A Ae : Option Addr) (n cc ce i : Nat) (lss : List (List (List UInt8))) (es : List Ed) (x : Ed) (w : World) (hE : EL w w.heap.size (.slice Ae es.length ce) es) (_ : es.length ≤ 1000000000) (hi : i < es.length) (hx : es[i] = x) (j : Nat) (hL : LL w w.heap.size (.slice A n cc) lss) (hn : n = lss.length) (hj : j < lss.length) (hS : Short lss) (hc : x.cfg = j) (hk : x.kind = 3) (h : x.line < 1) :
    Calls Tryd.prog 30 #[.slice A n cc, .slice Ae es.length ce, .int .i64 i] w (CheckPost (checkErr lss (es.take i) x) w) := by
  have HR : Hid (checkErr lss (es.take i) x = 1) := Lib.hid ((check_at hc hj).trans (by exact checkIn_one (by omega) (.inl h)))
  obtain ⟨ge, oe, eE, hge, x0, x1, x2, x3⟩ := hE.at hi
  rw [hx] at x0 x1 x2 x3
  have HE := Lib.hid hE
  clear hE hx
  subst eE
  obtain ⟨c, l, k, t⟩ := x
  obtain ⟨t, rfl⟩ : ∃ s : ByteArray, bytes s = t := ⟨str t, bytes_str t⟩
  simp only at x0 x1 x2 x3 HR hc hk h
  unfold strV at x3
  rw [str_bytes] at x3
  have hi2 : (i : Int) < es.length := by omega
  subst hc
  obtain ⟨g, o, u, eA, hg, c1, hs⟩ := hL.at hj
  have hls := (hS _ (List.getElem_mem hj)).1
  have hjn : j < n := by omega
  clear hL hn
  subst eA
  obtain ⟨Au, cu, rfl, hcu, hub, hu⟩ := hs.form
  have HLL := Lib.hid (hS _ (List.getElem_mem hj)).2
  generalize lss[j] = ls at *
  have HU := Lib.hid hu
  clear hu hs hS hj
  have d0 : decide ((j : Int) < 0) = false := decide_eq_false (by omega)
  have d1 : decide (n ≤ j) = false := decide_eq_false (by omega)
  subst hk
  have e1 : decide (l < 1) = true := decide_eq_true h
  go_enter Tryd.func30, Tryd.ntmps30
  go_wp2_with fail
  go_ret
  exact check_mk HR.out (below_box _ _)
set_option maxRecDepth 100000 in
set_option maxHeartbeats 2000000 in
theorem rcheck_ins_hi (A Ae : Option Addr) (n cc ce i : Nat) (lss : List (List (List UInt8))) (es : List Ed) (x : Ed) (w : World) (hE : EL w w.heap.size (.slice Ae es.length ce) es) (_ : es.length ≤ 1000000000) (hi : i < es.length) (hx : es[i] = x) (j : Nat) (hL : LL w w.heap.size (.slice A n cc) lss) (hn : n = lss.length) (hj : j < lss.length) (hS : Short lss) (hc : x.cfg = j) (hk : x.kind = 3) (h0 : ¬ x.line < 1) (h : (lss[j].length : Int) + 1 < x.line) :
    Calls Tryd.prog 30 #[.slice A n cc, .slice Ae es.length ce, .int .i64 i] w (CheckPost (checkErr lss (es.take i) x) w) := by
  have HR : Hid (checkErr lss (es.take i) x = 1) := Lib.hid ((check_at hc hj).trans (by exact checkIn_one (by omega) (.inr (.inl (by unfold lastLine; rw [hk]; simpa using h)))))
  obtain ⟨ge, oe, eE, hge, x0, x1, x2, x3⟩ := hE.at hi
  rw [hx] at x0 x1 x2 x3
  have HE := Lib.hid hE
  clear hE hx
  subst eE
  obtain ⟨c, l, k, t⟩ := x
  obtain ⟨t, rfl⟩ : ∃ s : ByteArray, bytes s = t := ⟨str t, bytes_str t⟩
  simp only at x0 x1 x2 x3 HR hc hk h0 h
  unfold strV at x3
  rw [str_bytes] at x3
  have hi2 : (i : Int) < es.length := by omega
  subst hc
  obtain ⟨g, o, u, eA, hg, c1, hs⟩ := hL.at hj
  have hls := (hS _ (List.getElem_mem hj)).1
  have hjn : j < n := by omega
  clear hL hn
  subst eA
  obtain ⟨Au, cu, rfl, hcu, hub, hu⟩ := hs.form
  have HLL := Lib.hid (hS _ (List.getElem_mem hj)).2
  generalize lss[j] = ls at *
  have HU := Lib.hid hu
  clear hu hs hS hj
  have d0 : decide ((j : Int) < 0) = false := decide_eq_false (by omega)
  have d1 : decide (n ≤ j) = false := decide_eq_false (by omega)
  subst hk
  have e1 : decide (l < 1) = false := decide_eq_false h0
  have e2 : decide ((ls.length : Int) + 1 < l) = true := decide_eq_true h
  go_enter Tryd.func30, Tryd.ntmps30
  go_wp2_with fail
  go_ret
  exact check_mk HR.out (below_box _ _)
set_option maxRecDepth 100000 in
set_option maxHeartbeats 2000000 in
theorem rcheck_ins_bad (A Ae : Option Addr) (n cc ce i : Nat) (lss : List (List (List UInt8))) (es : List Ed) (x : Ed) (w : World) (hE : EL w w.heap.size (.slice Ae es.length ce) es) (_ : es.length ≤ 1000000000) (hi : i < es.length) (hx : es[i] = x) (j : Nat) (hL : LL w w.heap.size (.slice A n cc) lss) (hn : n = lss.length) (hj : j < lss.length) (hS : Short lss) (hc : x.cfg = j) (ht : x.text.length ≤ 1000000000) (hk : x.kind = 3) (h0 : ¬ x.line < 1) (h : ¬ (lss[j].length : Int) + 1 < x.line) (hp : printB x.text = false) :
    Calls Tryd.prog 30 #[.slice A n cc, .slice Ae es.length ce, .int .i64 i] w (CheckPost (checkErr lss (es.take i) x) w) := by
  have HR : Hid (checkErr lss (es.take i) x = 1) := Lib.hid ((check_at hc hj).trans (by exact checkIn_one (by omega) (.inr (.inr hp))))
  obtain ⟨ge, oe, eE, hge, x0, x1, x2, x3⟩ := hE.at hi
  rw [hx] at x0 x1 x2 x3
  have HE := Lib.hid hE
  clear hE hx
  subst eE
  obtain ⟨c, l, k, t⟩ := x
  obtain ⟨t, rfl⟩ : ∃ s : ByteArray, bytes s = t := ⟨str t, bytes_str t⟩
  simp only at x0 x1 x2 x3 HR hc ht hk h0 h hp
  unfold strV at x3
  rw [str_bytes] at x3
  have hi2 : (i : Int) < es.length := by omega
  subst hc
  obtain ⟨g, o, u, eA, hg, c1, hs⟩ := hL.at hj
  have hls := (hS _ (List.getElem_mem hj)).1
  have hjn : j < n := by omega
  clear hL hn
  subst eA
  obtain ⟨Au, cu, rfl, hcu, hub, hu⟩ := hs.form
  have HLL := Lib.hid (hS _ (List.getElem_mem hj)).2
  generalize lss[j] = ls at *
  have HU := Lib.hid hu
  clear hu hs hS hj
  have d0 : decide ((j : Int) < 0) = false := decide_eq_false (by omega)
  have d1 : decide (n ≤ j) = false := decide_eq_false (by omega)
  subst hk
  have HP : Hid (∀ w', Calls Tryd.prog 43 #[.string t] w' fun e w'' => e = .returned (.bool false) ∧ w' = w'') := Lib.hid (fun w' => by have := rprintable_any t w' (by rw [bytes_len] at ht; exact ht); rw [hp] at this; exact this)
  clear hp
  have e1 : decide (l < 1) = false := decide_eq_false h0
  have e2 : decide ((ls.length : Int) + 1 < l) = false := decide_eq_false h
  rcases Classical.em (bytes t = []) with htt | htt
  · obtain rfl : t = ⟨#[]⟩ := by rw [← str_bytes t, htt]; rfl
    clear htt
    go_enter Tryd.func30, Tryd.ntmps30
    go_wp2_with fail
    refine (HP.out _).mono ?_
    rintro e w' ⟨rfl, rfl⟩
    go_wp2_with fail
    go_ret
    exact check_mk HR.out (below_box _ _)
  · have v1 : t.toList.isEmpty = false := by rw [toList_bytes]; simpa using htt
    have v2 : (t.toList == []) = false := by rw [toList_bytes]; exact beq_false_of_ne htt
    clear htt
    go_enter Tryd.func30, Tryd.ntmps30
    go_wp2_with fail
    refine (HP.out _).mono ?_
    rintro e w' ⟨rfl, rfl⟩
    go_wp2_with fail
    go_ret
    exact check_mk HR.out (below_box _ _)
set_option maxRecDepth 100000 in
set_option maxHeartbeats 2000000 in
theorem rcheck_ins_ok (A Ae : Option Addr) (n cc ce i : Nat) (lss : List (List (List UInt8))) (es : List Ed) (x : Ed) (w : World) (hE : EL w w.heap.size (.slice Ae es.length ce) es) (_ : es.length ≤ 1000000000) (hi : i < es.length) (hx : es[i] = x) (j : Nat) (hL : LL w w.heap.size (.slice A n cc) lss) (hn : n = lss.length) (hj : j < lss.length) (hS : Short lss) (hc : x.cfg = j) (ht : x.text.length ≤ 1000000000) (hk : x.kind = 3) (h0 : ¬ x.line < 1) (h : ¬ (lss[j].length : Int) + 1 < x.line) (hp : printB x.text = true) :
    Calls Tryd.prog 30 #[.slice A n cc, .slice Ae es.length ce, .int .i64 i] w (CheckPost (checkErr lss (es.take i) x) w) := by
  have HR : Hid (checkErr lss (es.take i) x = 0) := Lib.hid ((check_at hc hj).trans (by exact clash_ins hk _ (by unfold lastLine; rw [hk, hp]; simp; omega)))
  obtain ⟨ge, oe, eE, hge, x0, x1, x2, x3⟩ := hE.at hi
  rw [hx] at x0 x1 x2 x3
  have HE := Lib.hid hE
  clear hE hx
  subst eE
  obtain ⟨c, l, k, t⟩ := x
  obtain ⟨t, rfl⟩ : ∃ s : ByteArray, bytes s = t := ⟨str t, bytes_str t⟩
  simp only at x0 x1 x2 x3 HR hc ht hk h0 h hp
  unfold strV at x3
  rw [str_bytes] at x3
  have hi2 : (i : Int) < es.length := by omega
  subst hc
  obtain ⟨g, o, u, eA, hg, c1, hs⟩ := hL.at hj
  have hls := (hS _ (List.getElem_mem hj)).1
  have hjn : j < n := by omega
  clear hL hn
  subst eA
  obtain ⟨Au, cu, rfl, hcu, hub, hu⟩ := hs.form
  have HLL := Lib.hid (hS _ (List.getElem_mem hj)).2
  generalize lss[j] = ls at *
  have HU := Lib.hid hu
  clear hu hs hS hj
  have d0 : decide ((j : Int) < 0) = false := decide_eq_false (by omega)
  have d1 : decide (n ≤ j) = false := decide_eq_false (by omega)
  subst hk
  have HP : Hid (∀ w', Calls Tryd.prog 43 #[.string t] w' fun e w'' => e = .returned (.bool true) ∧ w' = w'') := Lib.hid (fun w' => by have := rprintable_any t w' (by rw [bytes_len] at ht; exact ht); rw [hp] at this; exact this)
  clear hp
  have e1 : decide (l < 1) = false := decide_eq_false h0
  have e2 : decide ((ls.length : Int) + 1 < l) = false := decide_eq_false h
  rcases Classical.em (bytes t = []) with htt | htt
  · obtain rfl : t = ⟨#[]⟩ := by rw [← str_bytes t, htt]; rfl
    clear htt
    go_enter Tryd.func30, Tryd.ntmps30
    go_wp2_with fail
    refine (HP.out _).mono ?_
    rintro e w' ⟨rfl, rfl⟩
    go_wp2_with fail
    obtain ⟨B0, B1, B2, _⟩ := box4_cells w (.int .i64 j) (.int .i64 l) (.int .i64 3) (.string ⟨#[]⟩) 32
    have BB := below_box w (.cells #[.int .i64 j, .int .i64 l, .int .i64 3, .string ⟨#[]⟩] 32)
    go_loopw [11] (fun ix wr => ∃ q : Nat, q ≤ i ∧ ix = .int .i64 q ∧ wr.cell? ⟨w.heap.size, 2, none⟩ = some (.int .i64 3) ∧ w.heap.size ≤ wr.heap.size ∧ Below w.heap.size w wr) (fun ix _ => i - (intOf ix).toNat)
    case atStart => exact ⟨0, by omega, rfl, B2, BB.size, BB⟩
    case round =>
      clear B0 B1 B2 BB
      obtain ⟨q, hq, rfl, b2, hz, hb⟩ := hrel
      by_cases hlt : q < i
      · go_wp2_with fail
        go_quiet (fail)
        go_wp2_with fail
        go_roundw
        case rel => exact ⟨q + 1, by omega, by go_num, b2, hz, drewN_keep _ hb hz⟩
        case measure => simp [intOf]; omega
      · go_wp2_with fail
        go_ret
        exact check_mk HR.out hb
  · have v1 : t.toList.isEmpty = false := by rw [toList_bytes]; simpa using htt
    have v2 : (t.toList == []) = false := by rw [toList_bytes]; exact beq_false_of_ne htt
    clear htt
    go_enter Tryd.func30, Tryd.ntmps30
    go_wp2_with fail
    refine (HP.out _).mono ?_
    rintro e w' ⟨rfl, rfl⟩
    go_wp2_with fail
    obtain ⟨B0, B1, B2, _⟩ := box4_cells w (.int .i64 j) (.int .i64 l) (.int .i64 3) (.string t) 32
    have BB := below_box w (.cells #[.int .i64 j, .int .i64 l, .int .i64 3, .string t] 32)
    go_loopw [11] (fun ix wr => ∃ q : Nat, q ≤ i ∧ ix = .int .i64 q ∧ wr.cell? ⟨w.heap.size, 2, none⟩ = some (.int .i64 3) ∧ w.heap.size ≤ wr.heap.size ∧ Below w.heap.size w wr) (fun ix _ => i - (intOf ix).toNat)
    case atStart => exact ⟨0, by omega, rfl, B2, BB.size, BB⟩
    case round =>
      clear B0 B1 B2 BB
      obtain ⟨q, hq, rfl, b2, hz, hb⟩ := hrel
      by_cases hlt : q < i
      · go_wp2_with fail
        go_quiet (fail)
        go_wp2_with fail
        go_roundw
        case rel => exact ⟨q + 1, by omega, by go_num, b2, hz, drewN_keep _ hb hz⟩
        case measure => simp [intOf]; omega
      · go_wp2_with fail
        go_ret
        exact check_mk HR.out hb
set_option maxRecDepth 100000 in
set_option maxHeartbeats 2000000 in
theorem rcheck_del_ok (A Ae : Option Addr) (n cc ce i : Nat) (lss : List (List (List UInt8))) (es : List Ed) (x : Ed) (w : World) (hE : EL w w.heap.size (.slice Ae es.length ce) es) (_ : es.length ≤ 1000000000) (hi : i < es.length) (hx : es[i] = x) (j : Nat) (hL : LL w w.heap.size (.slice A n cc) lss) (hn : n = lss.length) (hj : j < lss.length) (hS : Short lss) (hc : x.cfg = j) (hk : x.kind = 1) (htt : x.text = []) (h0 : ¬ x.line < 1) (h : ¬ (lss[j].length : Int) < x.line) :
    Calls Tryd.prog 30 #[.slice A n cc, .slice Ae es.length ce, .int .i64 i] w (CheckPost (checkErr lss (es.take i) x) w) := by
  have HR : Hid (checkErr lss (es.take i) x = (if (es.take i).any (clash ⟨j, x.line, 1, []⟩) = true then 6 else 0)) := Lib.hid ((check_at hc hj).trans (by unfold checkIn; rw [if_neg (by omega), if_neg (by simp [htt]), if_neg (by unfold lastLine; rw [if_neg (by omega), htt]; simp [printB]; omega), if_neg (by omega), if_neg (by omega), clash_eq (kk := 1) hc]))
  obtain ⟨ge, oe, eE, hge, x0, x1, x2, x3⟩ := hE.at hi
  rw [hx] at x0 x1 x2 x3
  have HE := Lib.hid hE
  clear hE hx
  subst eE
  obtain ⟨c, l, k, t⟩ := x
  obtain ⟨t, rfl⟩ : ∃ s : ByteArray, bytes s = t := ⟨str t, bytes_str t⟩
  simp only at x0 x1 x2 x3 HR hc hk htt h0 h
  unfold strV at x3
  rw [str_bytes] at x3
  have hi2 : (i : Int) < es.length := by omega
  subst hc
  obtain ⟨g, o, u, eA, hg, c1, hs⟩ := hL.at hj
  have hls := (hS _ (List.getElem_mem hj)).1
  have hjn : j < n := by omega
  clear hL hn
  subst eA
  obtain ⟨Au, cu, rfl, hcu, hub, hu⟩ := hs.form
  have HLL := Lib.hid (hS _ (List.getElem_mem hj)).2
  generalize lss[j] = ls at *
  have HU := Lib.hid hu
  clear hu hs hS hj
  have d0 : decide ((j : Int) < 0) = false := decide_eq_false (by omega)
  have d1 : decide (n ≤ j) = false := decide_eq_false (by omega)
  subst hk
  obtain rfl : t = ⟨#[]⟩ := by rw [← str_bytes t, htt]; rfl
  clear htt
  have HP : Hid (∀ w', Calls Tryd.prog 43 #[.string ⟨#[]⟩] w' fun e w'' => e = .returned (.bool true) ∧ w' = w'') := Lib.hid (fun w' => rprintable_any ⟨#[]⟩ w' (by decide))
  have e1 : decide (l < 1) = false := decide_eq_false h0
  have e2 : decide ((ls.length : Int) < l) = false := decide_eq_false h
  go_enter Tryd.func30, Tryd.ntmps30
  go_wp2_with fail
  refine (HP.out _).mono ?_
  rintro e w' ⟨rfl, rfl⟩
  obtain ⟨B0, B1, B2, _⟩ := box4_cells w (.int .i64 j) (.int .i64 l) (.int .i64 1) (.string ⟨#[]⟩) 32
  have BB := below_box w (.cells #[.int .i64 j, .int .i64 l, .int .i64 1, .string ⟨#[]⟩] 32)
  have BZ := BB.size
  go_wp2_with fail
  have HC := Lib.hid (fun (q : Nat) (h : q < (es.take i).length) => any_step (x := ⟨j, l, 1, []⟩) h)
  have HX0 : Hid ((es.take i).any (clash ⟨j, l, 1, []⟩) = ((es.take i).drop 0).any (clash ⟨j, l, 1, []⟩)) := Lib.hid (by rw [List.drop_zero])
  go_loopw [11] (fun ix wr => ∃ q : Nat, q ≤ i ∧ ix = .int .i64 q ∧ wr.cell? ⟨w.heap.size, 0, none⟩ = some (.int .i64 j) ∧ wr.cell? ⟨w.heap.size, 1, none⟩ = some (.int .i64 l) ∧ wr.cell? ⟨w.heap.size, 2, none⟩ = some (.int .i64 1) ∧ w.heap.size ≤ wr.heap.size ∧ Below w.heap.size w wr ∧ Hid ((es.take i).any (clash ⟨j, l, 1, []⟩) = ((es.take i).drop q).any (clash ⟨j, l, 1, []⟩))) (fun ix _ => i - (intOf ix).toNat)
  case atStart => exact ⟨0, by omega, rfl, B0, B1, B2, BZ, BB, HX0⟩
  case round =>
    clear B0 B1 B2 BZ BB HX0 x0 x1 x2 x3
    obtain ⟨q, hq, rfl, b0, b1, b2, hz, hb, H⟩ := hrel
    by_cases hlt : q < i
    · obtain ⟨ge', oe', eE, hge', x0, x1, x2, x3⟩ := (HE.out.below hb).at (Nat.lt_trans hlt hi)
      have hqt : q < (es.take i).length := by rw [List.length_take]; omega
      have E := Lib.hid (HC.out q hqt)
      rw [List.getElem_take] at E
      generalize es[q] = y at x0 x1 x2 x3 E
      obtain ⟨yc, yl, yk, yt⟩ := y
      simp only at x0 x1 x2 x3
      clear x3
      injection eE with eE
      injection eE with eE1 eE2
      subst eE1 eE2
      have q0 : (q : Int) < es.length := by omega
      cases h1 : (yk != 3) with
      | false =>
        have HN : Hid (clash ⟨j, l, 1, []⟩ ⟨yc, yl, yk, yt⟩ = false) := Lib.hid (by simp at h1; simp [clash, h1])
        go_wp2_with fail
        go_quiet (fail)
        go_wp2_with fail
        go_roundw
        case rel => exact ⟨q + 1, by omega, by go_num, b0, b1, b2, hz, drewN_keep _ hb hz, Lib.hid (by rw [H.out, E.out, HN.out]; rfl)⟩
        case measure => simp [intOf]; omega
      | true =>
        cases h2 : (yc == (j : Int)) with
        | false =>
          have HN : Hid (clash ⟨j, l, 1, []⟩ ⟨yc, yl, yk, yt⟩ = false) := Lib.hid (by simp at h2; simp [clash, h2])
          go_wp2_with fail
          go_quiet (fail)
          go_wp2_with fail
          go_roundw
          case rel => exact ⟨q + 1, by omega, by go_num, b0, b1, b2, hz, drewN_keep _ hb hz, Lib.hid (by rw [H.out, E.out, HN.out]; rfl)⟩
          case measure => simp [intOf]; omega
        | true =>
          cases h3 : (yl == l) with
          | false =>
            have HN : Hid (clash ⟨j, l, 1, []⟩ ⟨yc, yl, yk, yt⟩ = false) := Lib.hid (by simp at h3; simp [clash, h3])
            go_wp2_with fail
            go_quiet (fail)
            go_wp2_with fail
            go_roundw
            case rel => exact ⟨q + 1, by omega, by go_num, b0, b1, b2, hz, drewN_keep _ hb hz, Lib.hid (by rw [H.out, E.out, HN.out]; rfl)⟩
            case measure => simp [intOf]; omega
          | true =>
            have HN : Hid ((es.take i).any (clash ⟨j, l, 1, []⟩) = true) := Lib.hid (by simp at h1 h2 h3; rw [H.out, E.out]; simp [clash, h1, h2, h3])
            clear H E
            go_wp2_with fail
            go_quiet (fail)
            go_wp2_with fail
            go_ret
            exact check_mk (by rw [HR.out, HN.out]; rfl) (drewN_keep _ hb hz)
    · have HN : Hid ((es.take i).any (clash ⟨j, l, 1, []⟩) = false) := Lib.hid (by rw [H.out, List.drop_eq_nil_of_le (by rw [List.length_take]; omega)]; rfl)
      go_wp2_with fail
      go_ret
      exact check_mk (by rw [HR.out, HN.out]; rfl) hb
set_option maxRecDepth 100000 in
set_option maxHeartbeats 2000000 in
theorem rcheck_flp_no (A Ae : Option Addr) (n cc ce i : Nat) (lss : List (List (List UInt8))) (es : List Ed) (x : Ed) (w : World) (hE : EL w w.heap.size (.slice Ae es.length ce) es) (_ : es.length ≤ 1000000000) (hi : i < es.length) (hx : es[i] = x) (j : Nat) (hL : LL w w.heap.size (.slice A n cc) lss) (hn : n = lss.length) (hj : j < lss.length) (hS : Short lss) (hc : x.cfg = j) (hk : x.kind = 2) (htt : x.text = []) (h0 : ¬ x.line < 1) (h : ¬ (lss[j].length : Int) < x.line) (hf : flipI lss[j] (x.line - 1) = none) :
    Calls Tryd.prog 30 #[.slice A n cc, .slice Ae es.length ce, .int .i64 i] w (CheckPost (checkErr lss (es.take i) x) w) := by
  have HR : Hid (checkErr lss (es.take i) x = 8) := Lib.hid ((check_at hc hj).trans (by unfold checkIn; rw [if_neg (by omega), if_neg (by simp [htt]), if_neg (by unfold lastLine; rw [if_neg (by omega), htt]; simp [printB]; omega), if_neg (by omega), if_pos ⟨hk, hf⟩]))
  obtain ⟨ge, oe, eE, hge, x0, x1, x2, x3⟩ := hE.at hi
  rw [hx] at x0 x1 x2 x3
  have HE := Lib.hid hE
  clear hE hx
  subst eE
  obtain ⟨c, l, k, t⟩ := x
  obtain ⟨t, rfl⟩ : ∃ s : ByteArray, bytes s = t := ⟨str t, bytes_str t⟩
  simp only at x0 x1 x2 x3 HR hc hk htt h0 h hf
  unfold strV at x3
  rw [str_bytes] at x3
  have hi2 : (i : Int) < es.length := by omega
  subst hc
  obtain ⟨g, o, u, eA, hg, c1, hs⟩ := hL.at hj
  have hls := (hS _ (List.getElem_mem hj)).1
  have hjn : j < n := by omega
  clear hL hn
  subst eA
  obtain ⟨Au, cu, rfl, hcu, hub, hu⟩ := hs.form
  have HLL := Lib.hid (hS _ (List.getElem_mem hj)).2
  generalize lss[j] = ls at *
  have HU := Lib.hid hu
  clear hu hs hS hj
  have d0 : decide ((j : Int) < 0) = false := decide_eq_false (by omega)
  have d1 : decide (n ≤ j) = false := decide_eq_false (by omega)
  subst hk
  obtain rfl : t = ⟨#[]⟩ := by rw [← str_bytes t, htt]; rfl
  clear htt
  have HP : Hid (∀ w', Calls Tryd.prog 43 #[.string ⟨#[]⟩] w' fun e w'' => e = .returned (.bool true) ∧ w' = w'') := Lib.hid (fun w' => rprintable_any ⟨#[]⟩ w' (by decide))
  have e1 : decide (l < 1) = false := decide_eq_false h0
  have e2 : decide ((ls.length : Int) < l) = false := decide_eq_false h
  have HF := Lib.hid hf
  clear hf
  go_enter Tryd.func30, Tryd.ntmps30
  go_wp2_with fail
  refine (HP.out _).mono ?_
  rintro e w' ⟨rfl, rfl⟩
  obtain ⟨B0, B1, B2, _⟩ := box4_cells w (.int .i64 j) (.int .i64 l) (.int .i64 2) (.string ⟨#[]⟩) 32
  have BB := below_box w (.cells #[.int .i64 j, .int .i64 l, .int .i64 2, .string ⟨#[]⟩] 32)
  have BZ := BB.size
  have HFL : Hid (∀ w', w.heap.size ≤ w'.heap.size ∧ Below w.heap.size w w' → Calls Tryd.prog 10 #[.slice Au ls.length cu, .int .i64 (l - 1)] w' fun e w'' => e = .returned (.tuple #[.string (str []), .bool false]) ∧ Below w'.heap.size w' w'') := Lib.hid (fun w' hw => by
    have hf := rflip_any Au ls.length cu ls (l - 1) w' ((HU.out.below hw.2).mono hw.1) rfl HLL.out
    rw [HF.out] at hf
    exact hf)
  have C1 := (BB.cell (World.block_lt_of_cell? _ _ c1)).trans c1
  have S1 := And.intro B0 (And.intro B1 (And.intro B2 (And.intro C1 (And.intro BZ BB))))
  have HS1 := Lib.hid S1
  clear S1 C1 B0 B1 B2
  go_wp2_with fail
  have W1 : IntKind.i64.wrap (l - 1) = l - 1 := by simp [IntKind.wrap, IntKind.signed, IntKind.bits]; omega
  have j0 : (0 : Int) ≤ (j : Int) := by omega
  have j1 : (j : Int) < n := by omega
  go_region_held3 (fun w' => w'.cell? ⟨w.heap.size, 0, none⟩ = some (.int .i64 j) ∧ w'.cell? ⟨w.heap.size, 1, none⟩ = some (.int .i64 l) ∧ w'.cell? ⟨w.heap.size, 2, none⟩ = some (.int .i64 2) ∧ w'.cell? ⟨g, o + j, none⟩ = some (.slice Au ls.length cu) ∧ w.heap.size ≤ w'.heap.size ∧ Below w.heap.size w w') (first | exact keep4c HS1.out (below_drew _) | (refine keep4c ?_ (by assumption); assumption)) (first | (go_at_call 10; with_reducible refine (HFL.out _ (And.right (And.right (And.right (And.right (by assumption)))))).mono ?_; rintro e w' ⟨rfl, hbc⟩))
  rename_i SE
  obtain ⟨B0, B1, B2, _, BZ2, BB2⟩ := SE
  clear W1 j0 j1
  go_wp2_with fail
  go_ret
  exact check_mk HR.out BB2
set_option maxRecDepth 100000 in
set_option maxHeartbeats 2000000 in
theorem rcheck_flp_ok (A Ae : Option Addr) (n cc ce i : Nat) (lss : List (List (List UInt8))) (es : List Ed) (x : Ed) (w : World) (hE : EL w w.heap.size (.slice Ae es.length ce) es) (_ : es.length ≤ 1000000000) (hi : i < es.length) (hx : es[i] = x) (j : Nat) (hL : LL w w.heap.size (.slice A n cc) lss) (hn : n = lss.length) (hj : j < lss.length) (hS : Short lss) (hc : x.cfg = j) (hk : x.kind = 2) (htt : x.text = []) (h0 : ¬ x.line < 1) (h : ¬ (lss[j].length : Int) < x.line) (r : List UInt8) (hf : flipI lss[j] (x.line - 1) = some r) :
    Calls Tryd.prog 30 #[.slice A n cc, .slice Ae es.length ce, .int .i64 i] w (CheckPost (checkErr lss (es.take i) x) w) := by
  have HR : Hid (checkErr lss (es.take i) x = (if (es.take i).any (clash ⟨j, x.line, 2, []⟩) = true then 6 else 0)) := Lib.hid ((check_at hc hj).trans (by unfold checkIn; rw [if_neg (by omega), if_neg (by simp [htt]), if_neg (by unfold lastLine; rw [if_neg (by omega), htt]; simp [printB]; omega), if_neg (by omega), if_neg (by simp [hf]), clash_eq (kk := 2) hc]))
  obtain ⟨ge, oe, eE, hge, x0, x1, x2, x3⟩ := hE.at hi
  rw [hx] at x0 x1 x2 x3
  have HE := Lib.hid hE
  clear hE hx
  subst eE
  obtain ⟨c, l, k, t⟩ := x
  obtain ⟨t, rfl⟩ : ∃ s : ByteArray, bytes s = t := ⟨str t, bytes_str t⟩
  simp only at x0 x1 x2 x3 HR hc hk htt h0 h hf
  unfold strV at x3
  rw [str_bytes] at x3
  have hi2 : (i : Int) < es.length := by omega
  subst hc
  obtain ⟨g, o, u, eA, hg, c1, hs⟩ := hL.at hj
  have hls := (hS _ (List.getElem_mem hj)).1
  have hjn : j < n := by omega
  clear hL hn
  subst eA
  obtain ⟨Au, cu, rfl, hcu, hub, hu⟩ := hs.form
  have HLL := Lib.hid (hS _ (List.getElem_mem hj)).2
  generalize lss[j] = ls at *
  have HU := Lib.hid hu
  clear hu hs hS hj
  have d0 : decide ((j : Int) < 0) = false := decide_eq_false (by omega)
  have d1 : decide (n ≤ j) = false := decide_eq_false (by omega)
  subst hk
  obtain rfl : t = ⟨#[]⟩ := by rw [← str_bytes t, htt]; rfl
  clear htt
  have HP : Hid (∀ w', Calls Tryd.prog 43 #[.string ⟨#[]⟩] w' fun e w'' => e = .returned (.bool true) ∧ w' = w'') := Lib.hid (fun w' => rprintable_any ⟨#[]⟩ w' (by decide))
  have e1 : decide (l < 1) = false := decide_eq_false h0
  have e2 : decide ((ls.length : Int) < l) = false := decide_eq_false h
  have HF := Lib.hid hf
  clear hf
  go_enter Tryd.func30, Tryd.ntmps30
  go_wp2_with fail
  refine (HP.out _).mono ?_
  rintro e w' ⟨rfl, rfl⟩
  obtain ⟨B0, B1, B2, _⟩ := box4_cells w (.int .i64 j) (.int .i64 l) (.int .i64 2) (.string ⟨#[]⟩) 32
  have BB := below_box w (.cells #[.int .i64 j, .int .i64 l, .int .i64 2, .string ⟨#[]⟩] 32)
  have BZ := BB.size
  have HFL : Hid (∀ w', w.heap.size ≤ w'.heap.size ∧ Below w.heap.size w w' → Calls Tryd.prog 10 #[.slice Au ls.length cu, .int .i64 (l - 1)] w' fun e w'' => e = .returned (.tuple #[.string (str r), .bool true]) ∧ Below w'.heap.size w' w'') := Lib.hid (fun w' hw => by
    have hf := rflip_any Au ls.length cu ls (l - 1) w' ((HU.out.below hw.2).mono hw.1) rfl HLL.out
    rw [HF.out] at hf
    exact hf)
  have C1 := (BB.cell (World.block_lt_of_cell? _ _ c1)).trans c1
  have S1 := And.intro B0 (And.intro B1 (And.intro B2 (And.intro C1 (And.intro BZ BB))))
  have HS1 := Lib.hid S1
  clear S1 C1 B0 B1 B2
  go_wp2_with fail
  have W1 : IntKind.i64.wrap (l - 1) = l - 1 := by simp [IntKind.wrap, IntKind.signed, IntKind.bits]; omega
  have j0 : (0 : Int) ≤ (j : Int) := by omega
  have j1 : (j : Int) < n := by omega
  go_region_held3 (fun w' => w'.cell? ⟨w.heap.size, 0, none⟩ = some (.int .i64 j) ∧ w'.cell? ⟨w.heap.size, 1, none⟩ = some (.int .i64 l) ∧ w'.cell? ⟨w.heap.size, 2, none⟩ = some (.int .i64 2) ∧ w'.cell? ⟨g, o + j, none⟩ = some (.slice Au ls.length cu) ∧ w.heap.size ≤ w'.heap.size ∧ Below w.heap.size w w') (first | exact keep4c HS1.out (below_drew _) | (refine keep4c ?_ (by assumption); assumption)) (first | (go_at_call 10; with_reducible refine (HFL.out _ (And.right (And.right (And.right (And.right (by assumption)))))).mono ?_; rintro e w' ⟨rfl, hbc⟩))
  rename_i SE
  obtain ⟨B0, B1, B2, _, BZ2, BB2⟩ := SE
  clear W1 j0 j1
  clear BZ BB
  have BZ := BZ2
  have BB := BB2
  clear BZ2 BB2
  go_wp2_with fail
  have HC := Lib.hid (fun (q : Nat) (h : q < (es.take i).length) => any_step (x := ⟨j, l, 2, []⟩) h)
  have HX0 : Hid ((es.take i).any (clash ⟨j, l, 2, []⟩) = ((es.take i).drop 0).any (clash ⟨j, l, 2, []⟩)) := Lib.hid (by rw [List.drop_zero])
  go_loopw [11] (fun ix wr => ∃ q : Nat, q ≤ i ∧ ix = .int .i64 q ∧ wr.cell? ⟨w.heap.size, 0, none⟩ = some (.int .i64 j) ∧ wr.cell? ⟨w.heap.size, 1, none⟩ = some (.int .i64 l) ∧ wr.cell? ⟨w.heap.size, 2, none⟩ = some (.int .i64 2) ∧ w.heap.size ≤ wr.heap.size ∧ Below w.heap.size w wr ∧ Hid ((es.take i).any (clash ⟨j, l, 2, []⟩) = ((es.take i).drop q).any (clash ⟨j, l, 2, []⟩))) (fun ix _ => i - (intOf ix).toNat)
  case atStart => exact ⟨0, by omega, rfl, B0, B1, B2, BZ, BB, HX0⟩
  case round =>
    clear B0 B1 B2 BZ BB HX0 x0 x1 x2 x3
    obtain ⟨q, hq, rfl, b0, b1, b2, hz, hb, H⟩ := hrel
    by_cases hlt : q < i
    · obtain ⟨ge', oe', eE, hge', x0, x1, x2, x3⟩ := (HE.out.below hb).at (Nat.lt_trans hlt hi)
      have hqt : q < (es.take i).length := by rw [List.length_take]; omega
      have E := Lib.hid (HC.out q hqt)
      rw [List.getElem_take] at E
      generalize es[q] = y at x0 x1 x2 x3 E
      obtain ⟨yc, yl, yk, yt⟩ := y
      simp only at x0 x1 x2 x3
      clear x3
      injection eE with eE
      injection eE with eE1 eE2
      subst eE1 eE2
      have q0 : (q : Int) < es.length := by omega
      cases h1 : (yk != 3) with
      | false =>
        have HN : Hid (clash ⟨j, l, 2, []⟩ ⟨yc, yl, yk, yt⟩ = false) := Lib.hid (by simp at h1; simp [clash, h1])
        go_wp2_with fail
        go_quiet (fail)
        go_wp2_with fail
        go_roundw
        case rel => exact ⟨q + 1, by omega, by go_num, b0, b1, b2, hz, drewN_keep _ hb hz, Lib.hid (by rw [H.out, E.out, HN.out]; rfl)⟩
        case measure => simp [intOf]; omega
      | true =>
        cases h2 : (yc == (j : Int)) with
        | false =>
          have HN : Hid (clash ⟨j, l, 2, []⟩ ⟨yc, yl, yk, yt⟩ = false) := Lib.hid (by simp at h2; simp [clash, h2])
          go_wp2_with fail
          go_quiet (fail)
          go_wp2_with fail
          go_roundw
          case rel => exact ⟨q + 1, by omega, by go_num, b0, b1, b2, hz, drewN_keep _ hb hz, Lib.hid (by rw [H.out, E.out, HN.out]; rfl)⟩
          case measure => simp [intOf]; omega
        | true =>
          cases h3 : (yl == l) with
          | false =>
            have HN : Hid (clash ⟨j, l, 2, []⟩ ⟨yc, yl, yk, yt⟩ = false) := Lib.hid (by simp at h3; simp [clash, h3])
            go_wp2_with fail
            go_quiet (fail)
            go_wp2_with fail
            go_roundw
            case rel => exact ⟨q + 1, by omega, by go_num, b0, b1, b2, hz, drewN_keep _ hb hz, Lib.hid (by rw [H.out, E.out, HN.out]; rfl)⟩
            case measure => simp [intOf]; omega
          | true =>
            have HN : Hid ((es.take i).any (clash ⟨j, l, 2, []⟩) = true) := Lib.hid (by simp at h1 h2 h3; rw [H.out, E.out]; simp [clash, h1, h2, h3])
            clear H E
            go_wp2_with fail
            go_quiet (fail)
            go_wp2_with fail
            go_ret
            exact check_mk (by rw [HR.out, HN.out]; rfl) (drewN_keep _ hb hz)
    · have HN : Hid ((es.take i).any (clash ⟨j, l, 2, []⟩) = false) := Lib.hid (by rw [H.out, List.drop_eq_nil_of_le (by rw [List.length_take]; omega)]; rfl)
      go_wp2_with fail
      go_ret
      exact check_mk (by rw [HR.out, HN.out]; rfl) hb
end Go.Proofs.YtpclacofcfbpjaaDoor
