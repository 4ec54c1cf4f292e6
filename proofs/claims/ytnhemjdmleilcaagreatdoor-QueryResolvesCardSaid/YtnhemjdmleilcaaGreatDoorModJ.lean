/- The walks of rightStatic and checkStatics. Conditions: the router lies in memory, addresses are numbers below 2^32. -/
import Derived.Test.YtnhemjdmleilcaaGreatDoorModI
namespace Go.Proofs.YtnhemjdmleilcaaGreatDoor
open Go.RowKit

/-- The error of a list whose elements are checked one by one, and each against those ahead of it. -/
def pairGo {α : Type} (f : α → Int) (c : α → α → Bool) (err : Int) (all : List α) : List α → Nat → Int
  | [], _ => 0
  | x :: r, k => if f x = 0 then (if (all.take k).any (c x) then err else pairGo f c err all r (k + 1)) else f x
theorem pairGo_at {α : Type} {f : α → Int} {c : α → α → Bool} {err : Int} {all : List α} {k : Nat} {R : Int} (h : k < all.length) (hR : pairGo f c err all (all.drop k) k = R) :
    R = if f all[k] = 0 then (if (all.take k).any (c all[k]) then err else pairGo f c err all (all.drop (k + 1)) (k + 1)) else f all[k] := by
  rw [drop_at h, pairGo] at hR; exact hR.symm
theorem pairGo_end {α : Type} {f : α → Int} {c : α → α → Bool} {err : Int} {all : List α} {k : Nat} {R : Int} (h : ¬ k < all.length) (hR : pairGo f c err all (all.drop k) k = R) : R = 0 := by
  rw [List.drop_of_length_le (by omega), pairGo] at hR; exact hR.symm
def pairE {α : Type} (most : Nat) (f : α → Int) (c : α → α → Bool) (err : Int) (l : List α) : Int := if most < l.length then 7 else pairGo f c err l l 0
theorem pair_fail {res fx X : Int} (h : res = if fx = 0 then X else fx) (h2 : fx ≠ 0) : res = fx := by rw [h, if_neg h2]
theorem pair_ok {res fx X : Int} (h : res = if fx = 0 then X else fx) (h2 : fx = 0) : res = X := by rw [h, if_pos h2]
theorem pair_hit {res err X : Int} {a b d : Bool} (h : res = if a then err else X) (h1 : a = b) (h2 : b = (true || d)) : res = err := by rw [h, h1, h2]; rfl
theorem pair_next {a b d : Bool} (h1 : a = b) (h2 : b = (false || d)) : a = d := by rw [h1, h2]; rfl
theorem pair_done {α : Type} {res err X : Int} {all : List α} {p : α → Bool} {k j : Nat} (h : res = if (all.take k).any p then err else X) (h1 : (all.take k).any p = ((all.take k).drop j).any p) (hj : ¬ j < k) : res = X := by
  rw [h, h1, List.drop_of_length_le (by rw [List.length_take]; omega)]; rfl
theorem take_step {α : Type} {all : List α} {p : α → Bool} {k j : Nat} (hj : j < k) (hjn : j < all.length) : ((all.take k).drop j).any p = (p all[j] || ((all.take k).drop (j + 1)).any p) := by
  rw [any_at (by rw [List.length_take]; omega), List.getElem_take]
def cntB : List Bool → Int
  | [] => 0
  | b :: r => (if b then 1 else 0) + cntB r
theorem cntB_bd : ∀ l : List Bool, 0 ≤ cntB l ∧ cntB l ≤ l.length
  | [] => ⟨Int.le_refl _, Int.le_refl _⟩
  | b :: r => by
    have := cntB_bd r
    simp only [cntB, List.length_cons]
    split <;> omega
theorem cntB_take (l : List Bool) : ∀ (k : Nat) (h : k < l.length), cntB (l.take (k + 1)) = cntB (l.take k) + (if l[k] then 1 else 0) := by
  induction l with
  | nil => intro k h; cases h
  | cons b r ih =>
    intro k h
    cases k with
    | zero => simp [cntB]
    | succ k =>
      have := ih k (by simpa using h)
      simp only [List.take_succ_cons, cntB, List.getElem_cons_succ] at this ⊢
      omega
def kindsL (x : Sr) : List Bool := [!(x.next == 0), !x.iface.isEmpty, x.discard]
def rightSr (ifs : List If) (x : Sr) : Bool := validP x.pa x.pl && cntB (kindsL x) == 1 && (x.next == 0 || decide (idxF (hasA x.next) ifs 0 < 0)) && withinB x.admin 1 255 && withinB x.tag 0 65535
theorem nat_neq (n : Nat) : ((n : Int) != 0) = !(n == 0) := by
  rw [Bool.eq_iff_iff]; simp
theorem str_isE (l : List UInt8) : (str l).toList.isEmpty = l.isEmpty := by rw [toList_str]
/-- What holds along the walk of rightStatic: the router's block, the route's, all that was there before. -/
structure RS2 (r : Rt) (x : Sr) (w0 w : World) : Prop where
  h : HasC 69 w0.heap.size r.C w
  s : HasC 142 (w0.heap.size + 1) x.C w
  b : Below w0.heap.size w0 w
theorem RS2.keep {r : Rt} {x : Sr} {w0 w w' : World} (h : RS2 r x w0 w) (hb : Below w.heap.size w w') : RS2 r x w0 w' := ⟨h.h.keep hb, h.s.keep hb, h.b.trans (hb.mono h.b.size)⟩
theorem RS2.start (r : Rt) (x : Sr) (w : World) : RS2 r x w ((w.alloc (.cells r.C 69)).alloc (.cells x.C 142)) := by
  refine ⟨(HasC.new w _ _).keep ((Below.refl _ _).alloc (Nat.le_refl _) _), ?_, ((Below.refl _ _).alloc (Nat.le_refl _) _).alloc (by simp) _⟩
  have := HasC.new (w.alloc (.cells r.C 69)) 142 x.C
  rwa [show (w.alloc (.cells r.C 69)).heap.size = w.heap.size + 1 from by simp] at this
set_option maxRecDepth 100000 in
set_option maxHeartbeats 4000000 in
theorem rightStatic_any (r : Rt) (x : Sr) (w : World) (B : Nat) (h : r.at w B) (hB : B ≤ w.heap.size) (hx : x.fit) : Calls Tryz.prog 79 #[.agg r.C, .agg x.C] w fun e w' => e = .returned (.bool (rightSr r.ifs x)) ∧ Below w.heap.size w w' := by
  have H0 := RS2.start r x w
  have HR := Lib.hid h
  have HBB := Lib.hid hB
  have HX := Lib.hid hx
  clear h hB hx
  have E : Hid (rightSr r.ifs x = (validP x.pa x.pl && cntB (kindsL x) == 1 && (x.next == 0 || decide (idxF (hasA x.next) r.ifs 0 < 0)) && withinB x.admin 1 255 && withinB x.tag 0 65535)) := Lib.hid rfl
  have EL : Hid (kindsL x = [((x.next : Int) != 0), !(str x.iface).toList.isEmpty, x.discard]) := Lib.hid (by rw [nat_neq, str_isE]; rfl)
  generalize rightSr r.ifs x = res at E ⊢
  obtain ⟨b0, hb0⟩ : ∃ b, ((x.next : Int) != 0) = b := ⟨_, rfl⟩
  obtain ⟨b1, hb1⟩ : ∃ b, (str x.iface).toList.isEmpty = b := ⟨_, rfl⟩
  obtain ⟨b2, hb2⟩ : ∃ b, x.discard = b := ⟨_, rfl⟩
  rw [hb0, hb1, hb2] at EL
  generalize hl : kindsL x = l at EL E
  clear hl
  obtain rfl := EL.out
  have c2 : ((w.alloc (.cells r.C 69)).alloc (.cells x.C 142)).cell? ⟨w.heap.size + 1, 2, none⟩ = some (.int .u32 (x.next : Int)) := H0.s.cell 2
  have c3 : ((w.alloc (.cells r.C 69)).alloc (.cells x.C 142)).cell? ⟨w.heap.size + 1, 3, none⟩ = some (.string (str x.iface)) := H0.s.cell 3
  have c4 : ((w.alloc (.cells r.C 69)).alloc (.cells x.C 142)).cell? ⟨w.heap.size + 1, 4, none⟩ = some (.bool x.discard) := H0.s.cell 4
  rw [hb2] at c4
  clear hb2 EL
  have HB : HasC 4 (w.heap.size + 1 + 1) #[.bool b0, .bool !b1, .bool b2] (((w.alloc (.cells r.C 69)).alloc (.cells x.C 142)).alloc (.cells #[.bool b0, .bool !b1, .bool b2] 4)) := by
    have := HasC.new ((w.alloc (.cells r.C 69)).alloc (.cells x.C 142)) 4 #[.bool b0, .bool !b1, .bool b2]
    rwa [show ((w.alloc (.cells r.C 69)).alloc (.cells x.C 142)).heap.size = w.heap.size + 1 + 1 from by simp] at this
  have HB0 := Lib.hid HB
  have HS0 := Lib.hid (H0.keep ((Below.refl _ _).alloc (Nat.le_refl _) (.cells #[.bool b0, .bool !b1, .bool b2] 4)))
  clear HB H0
  go_enter Tryz.func79, Tryz.ntmps79
  go_wp2_with fail
  clear c2 c3 c4 hb0 hb1
  go_loopg [5, 18] 3 (fun gh kv ix wr => ∃ k : Nat, k + gh = 3 ∧ ix = .int .i64 k ∧ kv = .int .i64 (cntB ([b0, !b1, b2].take k)) ∧ Hid (RS2 r x w wr) ∧ Hid (HasC 4 (w.heap.size + 1 + 1) #[.bool b0, .bool !b1, .bool b2] wr))
  case atStart => exact ⟨0, by omega, rfl, rfl, HS0, HB0⟩
  case round =>
    obtain ⟨k, hk, rfl, rfl, HW, HC⟩ := hrel
    clear HS0 HB0
    by_cases hlt : k < 3
    case pos =>
      have ck : wr.cell? ⟨w.heap.size + 1 + 1, k, none⟩ = some (.bool ([b0, !b1, b2][k])) := by
        rw [HC.out.cell k]
        rcases (show k = 0 ∨ k = 1 ∨ k = 2 by omega) with rfl | rfl | rfl <;> rfl
      have ST := Lib.hid (cntB_take [b0, !b1, b2] k hlt)
      have BD := cntB_bd ([b0, !b1, b2].take k)
      have hlen : ([b0, !b1, b2].take k).length ≤ 3 := by rw [List.length_take]; omega
      generalize [b0, !b1, b2][k] = bk at ck ST
      generalize cntB ([b0, !b1, b2].take k) = n at ST BD ⊢
      have hn0 : -10 ≤ n := by omega
      have hn1 : n ≤ 10 := by omega
      clear BD hlen
      cases bk with
      | false =>
        go_wp2_with fail
        go_roundg (3 - (k + 1))
        case measure => omega
        case rel => exact ⟨k + 1, by omega, by go_num, by rw [ST.out]; simp, HW, HC⟩
      | true =>
        go_wp2_with fail
        go_roundg (3 - (k + 1))
        case measure => omega
        case rel => exact ⟨k + 1, by omega, by go_num, by rw [ST.out]; first | done | rfl | go_num, HW, HC⟩
    obtain rfl : k = 3 := by omega
    have EN : Hid (cntB [b0, !b1, b2] = cntB ([b0, !b1, b2].take 3)) := Lib.hid rfl
    rw [EN.out] at E
    generalize cntB ([b0, !b1, b2].take 3) = n at E ⊢
    clear EN HC hlt
    have c0 : wr.cell? ⟨w.heap.size + 1, 0, none⟩ = some (.int .u32 (x.pa : Int)) := HW.out.s.cell 0
    have c1 : wr.cell? ⟨w.heap.size + 1, 1, none⟩ = some (.int .i64 x.pl) := HW.out.s.cell 1
    go_wp2_with fail
    refine (valid_any x.pa x.pl _ HX.out.1).mono ?_
    rintro e w1 ⟨rfl, hb⟩
    have H1 := Lib.hid (HW.out.keep hb)
    clear hb HW c0 c1
    cases hv : validP x.pa x.pl with
    | false =>
      go_wp2_with fail
      go_ret
      exact ⟨ret_bool (by rw [E.out, hv]; rfl), H1.out.b⟩
    | true =>
    by_cases hn : n = 1
    case neg =>
      have dn : (n == 1) = false := by simpa using hn
      clear hn
      go_wp2_with fail
      go_ret
      exact ⟨ret_bool (by rw [E.out, hv, dn]; rfl), H1.out.b⟩
    subst hn
    have E1 : Hid (res = ((x.next == 0 || decide (idxF (hasA x.next) r.ifs 0 < 0)) && withinB x.admin 1 255 && withinB x.tag 0 65535)) := Lib.hid (by rw [E.out, hv]; rfl)
    clear hv E
    have c2 : w1.cell? ⟨w.heap.size + 1, 2, none⟩ = some (.int .u32 (x.next : Int)) := H1.out.s.cell 2
    by_cases hz : x.next = 0
    · have dz : ((x.next : Int) == 0) = true := by simp; omega
      have E2 : Hid (res = (withinB x.admin 1 255 && withinB x.tag 0 65535)) := Lib.hid (by rw [E1.out, hz]; rfl)
      clear hz
      have c5 : w1.cell? ⟨w.heap.size + 1, 5, none⟩ = some (.int .i64 x.admin) := H1.out.s.cell 5
      have c6 : w1.cell? ⟨w.heap.size + 1, 6, none⟩ = some (.int .i64 x.tag) := H1.out.s.cell 6
      cases hw1 : withinB x.admin 1 255 with
      | false =>
        go_wp2_with (go_at_call 31; refine (within_any _ _ _ _).mono ?_; rintro e w' ⟨rfl, rfl⟩)
        go_ret
        exact ⟨ret_bool (by rw [E2.out, hw1]; rfl), H1.out.b⟩
      | true =>
      go_wp2_with (go_at_call 31; refine (within_any _ _ _ _).mono ?_; rintro e w' ⟨rfl, rfl⟩)
      go_ret
      exact ⟨ret_bool (by rw [E2.out, hw1]; rfl), H1.out.b⟩
    have dz : ((x.next : Int) == 0) = false := by simp; omega
    have dz2 : (x.next == 0) = false := by simpa using hz
    have E3 : Hid (res = (decide (idxF (hasA x.next) r.ifs 0 < 0) && withinB x.admin 1 255 && withinB x.tag 0 65535)) := Lib.hid (by rw [E1.out, dz2]; rfl)
    clear hz dz2
    go_wp2_with (first | (refine wpList_unguard (by rfl) (wpList_loadRow rfl 69 _ rfl rfl H1.out.h.range Tryz.rowRt Tryz.sizeRt ?_)))
    with_reducible refine (address_any r x.next w1 B (HR.out.below (H1.out.b.mono HBB.out)) (Nat.le_trans HBB.out H1.out.b.size)).mono ?_
    rintro e w2 ⟨rfl, hb⟩
    have H2 := Lib.hid (H1.out.keep hb)
    clear hb H1 c2
    by_cases hd : idxF (hasA x.next) r.ifs 0 < 0
    case neg =>
      have di := decide_eq_false hd
      clear hd
      go_wp2_with fail
      go_ret
      exact ⟨ret_bool (by rw [E3.out, di]; rfl), H2.out.b⟩
    have di := decide_eq_true hd
    have E2 : Hid (res = (withinB x.admin 1 255 && withinB x.tag 0 65535)) := Lib.hid (by rw [E3.out, di]; rfl)
    clear hd
    have c5 : w2.cell? ⟨w.heap.size + 1, 5, none⟩ = some (.int .i64 x.admin) := H2.out.s.cell 5
    have c6 : w2.cell? ⟨w.heap.size + 1, 6, none⟩ = some (.int .i64 x.tag) := H2.out.s.cell 6
    cases hw1 : withinB x.admin 1 255 with
    | false =>
      go_wp2_with (go_at_call 31; refine (within_any _ _ _ _).mono ?_; rintro e w' ⟨rfl, rfl⟩)
      go_ret
      exact ⟨ret_bool (by rw [E2.out, hw1]; rfl), H2.out.b⟩
    | true =>
    go_wp2_with (go_at_call 31; refine (within_any _ _ _ _).mono ?_; rintro e w' ⟨rfl, rfl⟩)
    go_ret
    exact ⟨ret_bool (by rw [E2.out, hw1]; rfl), H2.out.b⟩
end Go.Proofs.YtnhemjdmleilcaaGreatDoor
