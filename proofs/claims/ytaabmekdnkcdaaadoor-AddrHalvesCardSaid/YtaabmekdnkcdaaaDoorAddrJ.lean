/- The walks of Halves, of the reference's Compare and Last, and of the fixed examples of netverifylaw2. Conditions: as before. -/
import Derived.Test.YtaabmekdnkcdaaaDoorAddrI
import Derived.BigRegion
namespace Go.Proofs.YtaabmekdnkcdaaaDoor
open Go.RowKit

/-- The second half's address. -/
def halfP (p : Nat) (n : Int) : Nat := p ||| sz (n + 1)
theorem i_half {p : Nat} (hp : p < 4294967296) {n : Int} (h0 : 0 ≤ n) (h1 : n < 32) : bits .or .u32 (p : Int) (2 ^ (32 - (n + 1)).toNat % 4294967296) = (halfP p n : Int) := by
  have hc : 32 - clampN (n + 1) = (32 - (n + 1)).toNat := by unfold clampN; omega
  have hl : (2 : Nat) ^ (32 - (n + 1)).toNat < 4294967296 := by
    have : (2 : Nat) ^ (32 - (n + 1)).toNat ≤ 2 ^ 31 := Nat.pow_le_pow_right (by omega) (by omega)
    omega
  have e : ((2 : Int) ^ (32 - (n + 1)).toNat % 4294967296) = ((2 ^ (32 - (n + 1)).toNat : Nat) : Int) := by
    rw [show (2 : Int) ^ (32 - (n + 1)).toNat = ((2 ^ (32 - (n + 1)).toNat : Nat) : Int) from by rw [Int.natCast_pow]; rfl]
    generalize 2 ^ (32 - (n + 1)).toNat = x at *
    exact Int.emod_eq_of_lt (by omega) (by omega)
  rw [e, u32_or_nat _ _ hp hl]
  unfold halfP sz
  rw [hc]
theorem halfP_lt {p : Nat} (hp : p < 4294967296) {n : Int} (h0 : 0 ≤ n) : halfP p n < 4294967296 := by
  unfold halfP
  have h : sz (n + 1) < 2 ^ 32 := by
    have : sz (n + 1) ≤ 2 ^ 31 := Nat.pow_le_pow_right (by omega) (by unfold clampN; omega)
    omega
  have := Nat.or_lt_two_pow (x := p) (y := sz (n + 1)) (n := 32) (by simpa using hp) h
  simpa using this

set_option maxHeartbeats 2000000 in
theorem halves_no (p : Nat) (n : Int) (w : World) (h : n < 0 ∨ 32 ≤ n) : Calls Tryd.prog 36 #[PV p n] w fun e w' => e = .returned (.tuple #[PV 0 0, PV 0 0, .bool false]) ∧ Below w.heap.size w w' := by
  unfold PV
  rcases h with h | h
  · go_enter Tryd.func36, Tryd.ntmps36
    go_wp2_with fail
    refine bodyPost_ret (v := .tuple #[.agg #[.int .u32 ((0 : Nat) : Int), .int .i64 0], .agg #[.int .u32 ((0 : Nat) : Int), .int .i64 0], .bool false]) (by simp [results, Tryd.results36, go_sem]) rfl ⟨rfl, ?_⟩
    exact (((Below.refl _ w).alloc (Nat.le_refl _) _).alloc (by simp) _).alloc (by simp; omega) _
  · have h' : ¬ n < 0 := by omega
    go_enter Tryd.func36, Tryd.ntmps36
    go_wp2_with fail
    refine bodyPost_ret (v := .tuple #[.agg #[.int .u32 ((0 : Nat) : Int), .int .i64 0], .agg #[.int .u32 ((0 : Nat) : Int), .int .i64 0], .bool false]) (by simp [results, Tryd.results36, go_sem]) rfl ⟨rfl, ?_⟩
    exact (((Below.refl _ w).alloc (Nat.le_refl _) _).alloc (by simp) _).alloc (by simp; omega) _
set_option maxHeartbeats 2000000 in
theorem halves_yes (p : Nat) (n : Int) (w : World) (hp : p < 4294967296) (h0 : 0 ≤ n) (h1 : n < 32) : Calls Tryd.prog 36 #[PV p n] w fun e w' => e = .returned (.tuple #[PV p (n + 1), PV (halfP p n) (n + 1), .bool true]) ∧ Below w.heap.size w w' := by
  have E := i_half hp h0 h1
  unfold PV
  go_enter Tryd.func36, Tryd.ntmps36
  go_wp2_with fail
  go_region
  all_goals (try go_wp2_with fail)
  all_goals (refine bodyPost_ret (v := .tuple #[.agg #[.int .u32 (p : Int), .int .i64 (n + 1)], .agg #[.int .u32 (halfP p n : Int), .int .i64 (n + 1)], .bool true]) ?_ rfl ⟨rfl, ?_⟩)
  all_goals first
    | (simp [results, Tryd.results36, go_sem]; done)
    | (repeat (first | exact Below.refl _ _ | apply Below.drew | refine Below.setCell ?_ (by simp) _ | refine Below.alloc ?_ (by simp; try omega) _))

set_option maxHeartbeats 2000000 in
theorem rcompare_any (p : Nat) (n : Int) (q : Nat) (m : Int) (w : World) : Calls Tryd.prog 40 #[PV p n, PV q m] w fun e w' => e = .returned (.int .i64 (cmpP p n q m)) ∧ Below w.heap.size w w' := by
  unfold PV
  have hr := pfx_eql p q n m
  have hg := Tryd.pfxGuard
  have hb : Below w.heap.size w ((w.alloc (.cells #[.int .u32 (p : Int), .int .i64 n] 32)).alloc (.cells #[.int .u32 (q : Int), .int .i64 m] 32)) := ((Below.refl _ w).alloc (Nat.le_refl _) _).alloc (by simp) _
  have HB := Lib.hid hb
  clear hb
  by_cases h1 : p < q
  · have E : Hid (cmpP p n q m = -1) := Lib.hid (by unfold cmpP; rw [if_pos h1])
    have d1 : decide (p < q) = true := by simp [h1]
    clear hr hg
    go_enter Tryd.func40, Tryd.ntmps40
    go_wp2_with fail
    go_ret
    exact ⟨ret_int E.out.symm, HB.out⟩
  have d1 : decide (p < q) = false := by simp; omega
  by_cases h2 : q < p
  · have E : Hid (cmpP p n q m = 1) := Lib.hid (by unfold cmpP; rw [if_neg h1, if_pos h2])
    have d2 : ((p : Int) == (q : Int)) = false := by simp; omega
    have d3 : decide (p = q ∧ n = m) = false := by simp; omega
    rw [d3] at hr
    go_enter Tryd.func40, Tryd.ntmps40
    go_wp2_with fail
    go_ret
    exact ⟨ret_int E.out.symm, HB.out⟩
  have hpq : p = q := by omega
  subst hpq
  by_cases h3 : n < m
  · have E : Hid (cmpP p n p m = -1) := Lib.hid (by unfold cmpP; rw [if_neg h1, if_neg h2, if_pos h3])
    clear hr hg
    go_enter Tryd.func40, Tryd.ntmps40
    go_wp2_with fail
    go_ret
    exact ⟨ret_int E.out.symm, HB.out⟩
  have d3 : decide (n < m) = false := by simp; omega
  by_cases h4 : n = m
  · subst h4
    have E : Hid (cmpP p n p n = 0) := Lib.hid (by unfold cmpP; simp)
    have d4 : decide (p = p ∧ n = n) = true := by simp
    rw [d4] at hr
    go_enter Tryd.func40, Tryd.ntmps40
    go_wp2_with fail
    go_ret
    exact ⟨ret_int E.out.symm, HB.out⟩
  · have E : Hid (cmpP p n p m = 1) := Lib.hid (by unfold cmpP; rw [if_neg h1, if_neg h2, if_neg h3, if_pos (by omega)])
    have d4 : decide (p = p ∧ n = m) = false := by simp [h4]
    rw [d4] at hr
    go_enter Tryd.func40, Tryd.ntmps40
    go_wp2_with fail
    go_ret
    exact ⟨ret_int E.out.symm, HB.out⟩

theorem ex_parse : parseA (bytes ⟨#[49, 48, 46, 48, 46, 48, 46, 49]⟩) = some 167772161 := by decide +kernel
theorem ex_pfx : pfxA (bytes ⟨#[49, 48, 46, 48, 46, 48, 46, 48, 47, 56]⟩) = some (167772160, 8) := by decide +kernel
theorem ex_fmt : fmtA 167772161 = [49, 48, 46, 48, 46, 48, 46, 49] := by
  have b0 : byteA 167772161 0 = 10 := by decide
  have b1 : byteA 167772161 1 = 0 := by decide
  have b2 : byteA 167772161 2 = 0 := by decide
  have b3 : byteA 167772161 3 = 1 := by decide
  have d10 : dec 10 = [49, 48] := by rw [dec_big (by decide), dec_small (by decide)]; decide
  have d0 : dec 0 = [48] := by rw [dec_small (by decide)]; decide
  have d1 : dec 1 = [49] := by rw [dec_small (by decide)]; decide
  rw [fmtA_eq, b0, b1, b2, b3, d10, d0, d1]; rfl
theorem sane_parse (w : World) (he : Env w) : Calls Tryd.prog 13 #[.string ⟨#[49, 48, 46, 48, 46, 48, 46, 49]⟩] w fun e w' => e = .returned (.tuple #[.int .u32 167772161, .bool true]) ∧ Below w.heap.size w w' :=
  parse_some ex_parse w he (by decide)
theorem sane_pfx (w : World) (he : Env w) : Calls Tryd.prog 20 #[.string ⟨#[49, 48, 46, 48, 46, 48, 46, 48, 47, 56]⟩] w fun e w' => e = .returned (.tuple #[.agg #[.int .u32 167772160, .int .i64 8], .bool true]) ∧ Below w.heap.size w w' := by
  refine (parsePrefix_any _ w he (by decide)).mono ?_
  rw [ex_pfx]
  rintro e w' ⟨rfl, hb⟩
  exact ⟨rfl, hb⟩
theorem sane_fmt (w : World) (he : Env w) : Calls Tryd.prog 16 #[.int .u32 167772161] w fun e w' => e = .returned (.string ⟨#[49, 48, 46, 48, 46, 48, 46, 49]⟩) ∧ Below w.heap.size w w' := by
  refine (format_any 167772161 w (by decide) he).mono ?_
  rw [ex_fmt]
  rintro e w' ⟨rfl, hb⟩
  exact ⟨rfl, hb⟩
theorem sane_cont (w : World) : Calls Tryd.prog 26 #[.agg #[.int .u32 167772160, .int .i64 8], .int .u32 167772161] w fun e w' => e = .returned (.bool true) ∧ Below w.heap.size w w' := by
  refine (contains_any 167772160 8 167772161 w (by decide)).mono ?_
  rintro e w' ⟨rfl, hb⟩
  exact ⟨ret_bool (by decide +kernel), hb⟩
theorem sane_last (w : World) : Calls Tryd.prog 37 #[.agg #[.int .u32 167772160, .int .i64 8]] w fun e w' => e = .returned (.int .u32 184549375) ∧ Below w.heap.size w w' := by
  refine (last_any 167772160 8 w (by decide)).mono ?_
  rintro e w' ⟨rfl, hb⟩
  exact ⟨ret_int (by decide +kernel), hb⟩
theorem sane_mask (w : World) : Calls Tryd.prog 34 #[.int .i64 8] w fun e w' => e = .returned (.int .u32 4278190080) ∧ w = w' := by
  refine (mask_any 8 w).mono ?_
  rintro e w' ⟨rfl, rfl⟩
  exact ⟨ret_int (by decide +kernel), rfl⟩

set_option maxHeartbeats 2000000 in
theorem sane2_any (w : World) (he : Env w) : Calls Tryd.prog 15 #[] w fun e w' => e = .returned (.bool true) ∧ Below w.heap.size w w' := by
  have HE := Lib.hid he
  clear he
  go_enter Tryd.func15, Tryd.ntmps15
  go_wp2_with fail
  refine (sane_parse _ HE.out).mono ?_
  rintro e w1 ⟨rfl, hb1⟩
  have z1 := hb1.size
  go_wp2_with fail
  refine (sane_pfx _ (HE.out.below hb1)).mono ?_
  rintro e w2 ⟨rfl, hb2⟩
  have z2 := hb2.size
  have B2 : Below w.heap.size w w2 := hb1.trans (hb2.mono z1)
  go_wp2_with fail
  have B3 : Below w.heap.size w (w2.alloc (.cells #[.int .u32 167772160, .int .i64 8] 32)) := B2.alloc B2.size _
  refine (sane_fmt _ (HE.out.below B3)).mono ?_
  rintro e w3 ⟨rfl, hb3⟩
  have z3 : w2.heap.size + 1 ≤ w3.heap.size := by have := hb3.size; simpa using this
  have c0 : w3.cell? ⟨w2.heap.size, 0, none⟩ = some (.int .u32 167772160) := by rw [hb3.cell (p := ⟨w2.heap.size, 0, none⟩) (by simp), new_cell]; rfl
  have c1 : w3.cell? ⟨w2.heap.size, 1, none⟩ = some (.int .i64 8) := by rw [hb3.cell (p := ⟨w2.heap.size, 1, none⟩) (by simp), new_cell]; rfl
  have B4 : Below w.heap.size w w3 := B3.trans (hb3.mono (by simp; omega))
  clear hb3
  go_wp2_with fail
  refine (sane_cont _).mono ?_
  rintro e w4 ⟨rfl, hb4⟩
  have z4 := hb4.size
  have c0' := (hb4.cell (p := ⟨w2.heap.size, 0, none⟩) (by show w2.heap.size < _; omega)).trans c0
  have c1' := (hb4.cell (p := ⟨w2.heap.size, 1, none⟩) (by show w2.heap.size < _; omega)).trans c1
  clear c0 c1
  go_wp2_with fail
  refine (sane_last _).mono ?_
  rintro e w5 ⟨rfl, hb5⟩
  have z5 := hb5.size
  clear c0' c1'
  go_wp2_with fail
  refine (sane_mask _).mono ?_
  rintro e w' ⟨rfl, rfl⟩
  go_wp2_with fail
  go_ret
  exact ⟨rfl, (B4.trans (hb4.mono (by omega))).trans (hb5.mono (by omega))⟩
end Go.Proofs.YtaabmekdnkcdaaaDoor
