/- The walk of rightTranslation. No condition. -/
import Derived.Test.YtnhemjdmleilcaaGreatDoorModG
namespace Go.Proofs.YtnhemjdmleilcaaGreatDoor
open Go.RowKit

def sameS (x : Tr) : Bool := x.proto == 0 && x.iport == 0 && x.oport == 0 && x.list.isEmpty && x.lo == 0 && x.hi == 0
def sameP (x : Tr) : Bool := x.ins == 0 && x.outs == 0 && x.proto == 0 && x.iport == 0 && x.oport == 0
def rightTr (x : Tr) : Bool :=
  if x.kind = 1 then sameS x && !(x.ins == 0) && !(x.outs == 0)
  else if x.kind = 2 then sameP x && !(x.lo == 0) && decide (x.lo ≤ x.hi) && decide (x.hi - x.lo < 8)
  else if x.kind = 3 then !(x.ins == 0) && !(x.outs == 0) && (x.proto == 6 || x.proto == 17) && withinB x.iport 0 65535 && withinB x.oport 0 65535 && x.list.isEmpty && x.lo == 0 && x.hi == 0
  else false
theorem Tryz.trStood : Tryz.prog.stoodInHeld 139 = false := by kernel_rfl
theorem Tryz.trGuard : Tryz.prog.eqGuardType Tryz.prog.depth 139 = false := by kernel_rfl
theorem str_eqb (l : List UInt8) : ((str l).toList == (str []).toList) = l.isEmpty := by rw [toList_str, toList_str]; cases l <;> rfl
set_option maxHeartbeats 2000000 in
theorem trS_eql (ins outs : Nat) (proto iport oport : Int) (list : List UInt8) (lo hi : Nat) (w : World) : (binOp .eql 139 (.agg #[.int .i64 1, .int .u32 (ins : Int), .int .u32 (outs : Int), .int .i64 proto, .int .i64 iport, .int .i64 oport, .string (str list), .int .u32 (lo : Int), .int .u32 (hi : Int)]) (.agg #[.int .i64 1, .int .u32 (ins : Int), .int .u32 (outs : Int), .int .i64 0, .int .i64 0, .int .i64 0, .string (str []), .int .u32 0, .int .u32 0])).run Tryz.prog w = .ok (.bool (sameS ⟨1, ins, outs, proto, iport, oport, list, lo, hi⟩)) w := by
  have hp := Tryz.trStood
  have hs := str_eqb list
  unfold sameS
  dsimp only
  by_cases h1 : proto = 0
  · by_cases h2 : iport = 0
    · by_cases h3 : oport = 0
      · by_cases h4 : list = []
        · by_cases h5 : lo = 0
          · by_cases h6 : hi = 0
            · subst h1 h2 h3 h4 h5 h6; simp [go_sem, hp]
            · have : ((hi : Int) == 0) = false := by simp; omega
              subst h1 h2 h3 h4 h5; simp [go_sem, hp, h6, this]
          · have : ((lo : Int) == 0) = false := by simp; omega
            subst h1 h2 h3 h4; simp [go_sem, hp, h5, this]
        · have : list.isEmpty = false := by cases list with | nil => exact absurd rfl h4 | cons => rfl
          rw [this] at hs
          subst h1 h2 h3; simp [go_sem, hp, hs, this]
      · have : (oport == 0) = false := by simpa using h3
        subst h1 h2; simp [go_sem, hp, this]
    · have : (iport == 0) = false := by simpa using h2
      subst h1; simp [go_sem, hp, this]
  · have : (proto == 0) = false := by simpa using h1
    simp [go_sem, hp, this]
set_option maxHeartbeats 2000000 in
theorem trP_eql (ins outs : Nat) (proto iport oport : Int) (list : List UInt8) (lo hi : Nat) (w : World) : (binOp .eql 139 (.agg #[.int .i64 2, .int .u32 (ins : Int), .int .u32 (outs : Int), .int .i64 proto, .int .i64 iport, .int .i64 oport, .string (str list), .int .u32 (lo : Int), .int .u32 (hi : Int)]) (.agg #[.int .i64 2, .int .u32 0, .int .u32 0, .int .i64 0, .int .i64 0, .int .i64 0, .string (str list), .int .u32 (lo : Int), .int .u32 (hi : Int)])).run Tryz.prog w = .ok (.bool (sameP ⟨2, ins, outs, proto, iport, oport, list, lo, hi⟩)) w := by
  have hp := Tryz.trStood
  unfold sameP
  dsimp only
  by_cases h5 : ins = 0
  · by_cases h6 : outs = 0
    · by_cases h1 : proto = 0
      · by_cases h2 : iport = 0
        · by_cases h3 : oport = 0
          · subst h1 h2 h3 h5 h6; simp [go_sem, hp]
          · have : (oport == 0) = false := by simpa using h3
            subst h1 h2 h5 h6; simp [go_sem, hp, this]
        · have : (iport == 0) = false := by simpa using h2
          subst h1 h5 h6; simp [go_sem, hp, this]
      · have : (proto == 0) = false := by simpa using h1
        subst h5 h6; simp [go_sem, hp, this]
    · have : ((outs : Int) == 0) = false := by simp; omega
      subst h5; simp [go_sem, hp, h6, this]
  · have : ((ins : Int) == 0) = false := by simp; omega
    simp [go_sem, hp, h5, this]
set_option maxRecDepth 8000 in
set_option maxHeartbeats 8000000 in
theorem rightTr_three (ins outs : Nat) (proto iport oport : Int) (list : List UInt8) (lo hi : Nat) (w : World) : Calls Tryz.prog 78 #[.agg #[.int .i64 3, .int .u32 (ins : Int), .int .u32 (outs : Int), .int .i64 proto, .int .i64 iport, .int .i64 oport, .string (str list), .int .u32 (lo : Int), .int .u32 (hi : Int)]] w fun e w' => e = .returned (.bool (rightTr ⟨3, ins, outs, proto, iport, oport, list, lo, hi⟩)) ∧ Below w.heap.size w w' := by
  have B0 := Lib.hid (fun o => (Below.refl w.heap.size w).alloc (Nat.le_refl _) o)
  have HW := Lib.hid (fun n lo hi w => within_any n lo hi w)
  have E : Hid (rightTr ⟨3, ins, outs, proto, iport, oport, list, lo, hi⟩ = (!(ins == 0) && !(outs == 0) && (proto == 6 || proto == 17) && withinB iport 0 65535 && withinB oport 0 65535 && list.isEmpty && lo == 0 && hi == 0)) := Lib.hid rfl
  generalize rightTr ⟨3, ins, outs, proto, iport, oport, list, lo, hi⟩ = res at E ⊢
  by_cases h1 : ins = 0
  · subst h1
    go_enter Tryz.func78, Tryz.ntmps78
    go_wp2_with (go_at_call 31; refine (HW.out _ _ _ _).mono ?_; rintro e w' ⟨rfl, rfl⟩)
    all_goals (go_ret; exact ⟨ret_bool (by rw [E.out]; first | (simp [*]; done) | (simp [*]; omega)), B0.out _⟩)
  · have h1a : ((ins : Int) == 0) = false := by simp; omega
    have h1b : ((ins : Int) != 0) = true := by simp; omega
    have h1c : (ins == 0) = false := by simpa using h1
    by_cases h2 : outs = 0
    · subst h2
      go_enter Tryz.func78, Tryz.ntmps78
      go_wp2_with (go_at_call 31; refine (HW.out _ _ _ _).mono ?_; rintro e w' ⟨rfl, rfl⟩)
      all_goals (go_ret; exact ⟨ret_bool (by rw [E.out]; first | (simp [*]; done) | (simp [*]; omega)), B0.out _⟩)
    · have h2a : ((outs : Int) == 0) = false := by simp; omega
      have h2b : ((outs : Int) != 0) = true := by simp; omega
      have h2c : (outs == 0) = false := by simpa using h2
      by_cases h3 : proto = 6
      · subst h3
        cases h4 : withinB iport 0 65535 with
        | false =>
          go_enter Tryz.func78, Tryz.ntmps78
          go_wp2_with (go_at_call 31; refine (HW.out _ _ _ _).mono ?_; rintro e w' ⟨rfl, rfl⟩)
          all_goals (go_ret; exact ⟨ret_bool (by rw [E.out]; first | (simp [*]; done) | (simp [*]; omega)), B0.out _⟩)
        | true =>
          cases h5 : withinB oport 0 65535 with
          | false =>
            go_enter Tryz.func78, Tryz.ntmps78
            go_wp2_with (go_at_call 31; refine (HW.out _ _ _ _).mono ?_; rintro e w' ⟨rfl, rfl⟩)
            all_goals (go_ret; exact ⟨ret_bool (by rw [E.out]; first | (simp [*]; done) | (simp [*]; omega)), B0.out _⟩)
          | true =>
            have h6t := toList_str list
            cases list with
            | nil =>
              by_cases h7 : lo = 0
              · subst h7
                by_cases h8 : hi = 0
                · subst h8
                  go_enter Tryz.func78, Tryz.ntmps78
                  go_wp2_with (go_at_call 31; refine (HW.out _ _ _ _).mono ?_; rintro e w' ⟨rfl, rfl⟩)
                  all_goals (go_ret; exact ⟨ret_bool (by rw [E.out]; first | (simp [*]; done) | (simp [*]; omega)), B0.out _⟩)
                · have h8a : ((hi : Int) == 0) = false := by simp; omega
                  have h8b : ((hi : Int) != 0) = true := by simp; omega
                  have h8c : (hi == 0) = false := by simpa using h8
                  go_enter Tryz.func78, Tryz.ntmps78
                  go_wp2_with (go_at_call 31; refine (HW.out _ _ _ _).mono ?_; rintro e w' ⟨rfl, rfl⟩)
                  all_goals (go_ret; exact ⟨ret_bool (by rw [E.out]; first | (simp [*]; done) | (simp [*]; omega)), B0.out _⟩)
              · have h7a : ((lo : Int) == 0) = false := by simp; omega
                have h7b : ((lo : Int) != 0) = true := by simp; omega
                have h7c : (lo == 0) = false := by simpa using h7
                go_enter Tryz.func78, Tryz.ntmps78
                go_wp2_with (go_at_call 31; refine (HW.out _ _ _ _).mono ?_; rintro e w' ⟨rfl, rfl⟩)
                all_goals (go_ret; exact ⟨ret_bool (by rw [E.out]; first | (simp [*]; done) | (simp [*]; omega)), B0.out _⟩)
            | cons c8 k8 =>
              go_enter Tryz.func78, Tryz.ntmps78
              go_wp2_with (go_at_call 31; refine (HW.out _ _ _ _).mono ?_; rintro e w' ⟨rfl, rfl⟩)
              all_goals (go_ret; exact ⟨ret_bool (by rw [E.out]; first | (simp [*]; done) | (simp [*]; omega)), B0.out _⟩)
      · have h3a : (proto == 6) = false := by simpa using h3
        have h3b : (proto != 6) = true := by simpa using h3
        by_cases h9 : proto = 17
        · subst h9
          cases h10 : withinB iport 0 65535 with
          | false =>
            go_enter Tryz.func78, Tryz.ntmps78
            go_wp2_with (go_at_call 31; refine (HW.out _ _ _ _).mono ?_; rintro e w' ⟨rfl, rfl⟩)
            all_goals (go_ret; exact ⟨ret_bool (by rw [E.out]; first | (simp [*]; done) | (simp [*]; omega)), B0.out _⟩)
          | true =>
            cases h11 : withinB oport 0 65535 with
            | false =>
              go_enter Tryz.func78, Tryz.ntmps78
              go_wp2_with (go_at_call 31; refine (HW.out _ _ _ _).mono ?_; rintro e w' ⟨rfl, rfl⟩)
              all_goals (go_ret; exact ⟨ret_bool (by rw [E.out]; first | (simp [*]; done) | (simp [*]; omega)), B0.out _⟩)
            | true =>
              have h12t := toList_str list
              cases list with
              | nil =>
                by_cases h13 : lo = 0
                · subst h13
                  by_cases h14 : hi = 0
                  · subst h14
                    go_enter Tryz.func78, Tryz.ntmps78
                    go_wp2_with (go_at_call 31; refine (HW.out _ _ _ _).mono ?_; rintro e w' ⟨rfl, rfl⟩)
                    all_goals (go_ret; exact ⟨ret_bool (by rw [E.out]; first | (simp [*]; done) | (simp [*]; omega)), B0.out _⟩)
                  · have h14a : ((hi : Int) == 0) = false := by simp; omega
                    have h14b : ((hi : Int) != 0) = true := by simp; omega
                    have h14c : (hi == 0) = false := by simpa using h14
                    go_enter Tryz.func78, Tryz.ntmps78
                    go_wp2_with (go_at_call 31; refine (HW.out _ _ _ _).mono ?_; rintro e w' ⟨rfl, rfl⟩)
                    all_goals (go_ret; exact ⟨ret_bool (by rw [E.out]; first | (simp [*]; done) | (simp [*]; omega)), B0.out _⟩)
                · have h13a : ((lo : Int) == 0) = false := by simp; omega
                  have h13b : ((lo : Int) != 0) = true := by simp; omega
                  have h13c : (lo == 0) = false := by simpa using h13
                  go_enter Tryz.func78, Tryz.ntmps78
                  go_wp2_with (go_at_call 31; refine (HW.out _ _ _ _).mono ?_; rintro e w' ⟨rfl, rfl⟩)
                  all_goals (go_ret; exact ⟨ret_bool (by rw [E.out]; first | (simp [*]; done) | (simp [*]; omega)), B0.out _⟩)
              | cons c14 k14 =>
                go_enter Tryz.func78, Tryz.ntmps78
                go_wp2_with (go_at_call 31; refine (HW.out _ _ _ _).mono ?_; rintro e w' ⟨rfl, rfl⟩)
                all_goals (go_ret; exact ⟨ret_bool (by rw [E.out]; first | (simp [*]; done) | (simp [*]; omega)), B0.out _⟩)
        · have h9a : (proto == 17) = false := by simpa using h9
          have h9b : (proto != 17) = true := by simpa using h9
          go_enter Tryz.func78, Tryz.ntmps78
          go_wp2_with (go_at_call 31; refine (HW.out _ _ _ _).mono ?_; rintro e w' ⟨rfl, rfl⟩)
          all_goals (go_ret; exact ⟨ret_bool (by rw [E.out]; first | (simp [*]; done) | (simp [*]; omega)), B0.out _⟩)
theorem rightTr_other (kind : Int) (ins outs : Nat) (proto iport oport : Int) (list : List UInt8) (lo hi : Nat) (w : World) (h1 : kind ≠ 1) (h2 : kind ≠ 2) (h3 : kind ≠ 3) : Calls Tryz.prog 78 #[.agg #[.int .i64 kind, .int .u32 (ins : Int), .int .u32 (outs : Int), .int .i64 proto, .int .i64 iport, .int .i64 oport, .string (str list), .int .u32 (lo : Int), .int .u32 (hi : Int)]] w fun e w' => e = .returned (.bool (rightTr ⟨kind, ins, outs, proto, iport, oport, list, lo, hi⟩)) ∧ Below w.heap.size w w' := by
  have B0 := Lib.hid (fun o => (Below.refl w.heap.size w).alloc (Nat.le_refl _) o)
  have E : Hid (rightTr ⟨kind, ins, outs, proto, iport, oport, list, lo, hi⟩ = false) := Lib.hid (by unfold rightTr; rw [if_neg h1, if_neg h2, if_neg h3])
  have d1 : (kind == 1) = false := by simpa using h1
  have d2 : (kind == 2) = false := by simpa using h2
  have d3 : (kind == 3) = false := by simpa using h3
  go_enter Tryz.func78, Tryz.ntmps78
  go_wp2_with fail
  go_ret
  exact ⟨ret_bool E.out.symm, B0.out _⟩
end Go.Proofs.YtnhemjdmleilcaaGreatDoor
