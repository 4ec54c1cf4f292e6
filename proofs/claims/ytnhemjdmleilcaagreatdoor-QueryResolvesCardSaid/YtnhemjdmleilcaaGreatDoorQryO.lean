/- One query, read and written: plain evaluation. No condition. -/
import Derived.Test.YtnhemjdmleilcaaGreatDoorQryN
import Derived.Test.YtnhemjdmleilcaaGreatDoorQryI
namespace Go.Proofs.YtnhemjdmleilcaaGreatDoor
open Go.RowKit
def awakeL : List UInt8 := [116, 114, 97, 118, 101, 114, 115, 101, 32, 102, 114, 111, 109, 32, 97, 32, 105, 102, 97, 99, 101, 32, 101, 48, 32, 116, 111, 32, 98, 32, 118, 105, 97, 32, 99, 32, 100, 115, 116, 32, 49, 48, 46, 48, 46, 48, 46, 48, 47, 56, 32, 112, 114, 111, 116, 111, 32, 54, 32, 102, 97, 105, 108, 117, 114, 101, 115, 32, 49]
def awakeQ : Qr := ⟨3, [97], [101, 48], [98], [], [99], 0, 0, 0, 0, 0, 0, 167772160, 8, 6, 0, 65535, 0, 65535, 1⟩
theorem awake_E : parseE awakeL = 0 := by decide
theorem awake_Q : parseQ awakeL = awakeQ := by
  unfold parseQ; rw [if_pos awake_E]; decide
theorem awake_V : validE awakeQ = 0 := by decide
theorem dec_10 : dec 10 = [49, 48] := by rw [dec_big (by decide), show 10 / 10 = 1 from rfl, dec_small (by decide)]; decide
theorem awake_P : pfxF 167772160 8 = [49, 48, 46, 48, 46, 48, 46, 48, 47, 56] := by
  unfold pfxF hostF
  rw [if_pos (by decide), if_pos (by decide)]
  simp only [fmtA, fmtTo]
  rw [show byteA 167772160 0 = 10 from by decide, show byteA 167772160 1 = 0 from by decide, show byteA 167772160 2 = 0 from by decide, show byteA 167772160 3 = 0 from by decide, show Int.toNat 8 = 8 from rfl, dec_10, dec_small (show 0 < 10 by decide), dec_small (show 8 < 10 by decide)]
  decide
theorem awake_F : fmtQ awakeQ = awakeL := by
  unfold fmtQ
  rw [if_pos awake_V]
  unfold fm8 fm7 fm6 fm5 fm4 fm3 fm2 fm1
  rw [show pfxF awakeQ.da awakeQ.dl = _ from awake_P, show awakeQ.proto.toNat = 6 from rfl, show awakeQ.fails.toNat = 1 from rfl, dec_small (show 6 < 10 by decide), dec_small (show 1 < 10 by decide)]
  decide

theorem EnvB.up {w w' : World} (h : EnvB w.heap.size w) (hb : Below w.heap.size w w') : EnvB w'.heap.size w' := by
  obtain ⟨h1, h2, h3, h4, h5⟩ := h.keep hb
  exact ⟨h1, Nat.lt_of_lt_of_le h2 hb.size, Nat.lt_of_lt_of_le h3 hb.size, Nat.lt_of_lt_of_le h4 hb.size, h5⟩
set_option maxRecDepth 100000 in
set_option maxHeartbeats 1000000 in
theorem awake_any (w : World) (he : EnvB w.heap.size w) : Calls Tryz.prog 4 #[] w fun e w' => e = .returned (.bool true) ∧ Below w.heap.size w w' := by
  have HE := Lib.hid he
  clear he
  have HC : Hid ((str awakeL).toList = [116, 114, 97, 118, 101, 114, 115, 101, 32, 102, 114, 111, 109, 32, 97, 32, 105, 102, 97, 99, 101, 32, 101, 48, 32, 116, 111, 32, 98, 32, 118, 105, 97, 32, 99, 32, 100, 115, 116, 32, 49, 48, 46, 48, 46, 48, 46, 48, 47, 56, 32, 112, 114, 111, 116, 111, 32, 54, 32, 102, 97, 105, 108, 117, 114, 101, 115, 32, 49]) := Lib.hid (toList_str _)
  have HD : Hid ((str [101, 48]).toList = [101, 48]) := Lib.hid (toList_str _)
  go_enter Tryz.func4, Tryz.ntmps4
  go_wp2_with fail
  refine (qparse_any (str awakeL) w HE.out).mono ?_
  rintro e w1 ⟨rfl, hb⟩
  rw [bytes_str, awake_Q, awake_E]
  have Q1 := Lib.hid (Zbox w1)
  have B1 := Lib.hid hb
  clear hb
  go_wp2_with (first | (refine wpList_storeQ (q' := awakeQ) rfl _ _ rfl rfl rfl Q1.out ?_; intro wz hz1 hz2) | (refine wpList_loadQ rfl _ rfl rfl hz1 ?_))
  have B2 : Hid (Below w.heap.size w wz) := Lib.hid (B1.out.trans ((((Below.refl w1.heap.size w1).alloc (Nat.le_refl _) _).trans (below_of_grown hz2 (Nat.le_refl _) (by simp))).mono B1.out.size))
  refine (qformat_any awakeQ _ ⟨by decide, by decide, by decide, by decide⟩ (HE.out.up B2.out)).mono ?_
  rintro e w2 ⟨rfl, hb⟩
  rw [awake_F, awake_V]
  unfold strV
  have hq := hz1.below hb (blk_lt hz1)
  have c0 : w2.cell? ⟨w1.heap.size, 0, none⟩ = some (.int .i64 3) := hq.cell 0
  have c2 : w2.cell? ⟨w1.heap.size, 2, none⟩ = some (.string (str [101, 48])) := hq.cell 2
  have c13 : w2.cell? ⟨w1.heap.size, 13, none⟩ = some (.int .i64 8) := hq.cell 13
  have c14 : w2.cell? ⟨w1.heap.size, 14, none⟩ = some (.int .i64 6) := hq.cell 14
  have c19 : w2.cell? ⟨w1.heap.size, 19, none⟩ = some (.int .i64 1) := hq.cell 19
  have B3 := Lib.hid (B2.out.trans (hb.mono B2.out.size))
  have hc := HC.out
  have hd := HD.out
  clear hb hq hz1 hz2
  go_wp2_with fail
  go_ret
  exact ⟨rfl, B3.out⟩
theorem dec100 (n : Nat) : decide ((100 : Int) < (n : Int)) = decide (100 < n) := by rw [decide_eq_decide]; omega
/-- Too long for the laws? -/
def longB (q : Qr) : Bool := decide (100 < q.fr.length) || decide (100 < q.fi.length) || decide (100 < q.tr.length) || decide (100 < q.ti.length) || decide (100 < q.via.length)
set_option maxRecDepth 100000 in
set_option maxHeartbeats 1000000 in
theorem long_any (q : Qr) (w : World) : Calls Tryz.prog 5 #[QV q] w fun e w' => e = .returned (.bool (longB q)) ∧ Below w.heap.size w w' := by
  have B0 := Lib.hid ((Below.refl w.heap.size w).alloc (Nat.le_refl _) (.cells (QC q) 33))
  have hL : Hid (longB q = (decide (100 < (str q.fr).size) || decide (100 < (str q.fi).size) || decide (100 < (str q.tr).size) || decide (100 < (str q.ti).size) || decide (100 < (str q.via).size))) := Lib.hid (by simp only [str_size]; rfl)
  obtain ⟨kind, fr, fi, tr, ti, via, la, ll, ra, rl, sa, sl, da, dl, proto, slo, shi, dlo, dhi, fails⟩ := q
  unfold QV strV
  dsimp only at hL B0 ⊢
  by_cases h1 : 100 < (str fr).size
  · go_enter Tryz.func5, Tryz.ntmps5
    go_wp2_with fail
    go_ret
    exact ⟨ret_bool (by rw [hL.out]; simp [h1]), B0.out⟩
  by_cases h2 : 100 < (str fi).size
  · go_enter Tryz.func5, Tryz.ntmps5
    go_wp2_with fail
    go_ret
    exact ⟨ret_bool (by rw [hL.out]; simp [h2]), B0.out⟩
  by_cases h3 : 100 < (str tr).size
  · go_enter Tryz.func5, Tryz.ntmps5
    go_wp2_with fail
    go_ret
    exact ⟨ret_bool (by rw [hL.out]; simp [h3]), B0.out⟩
  by_cases h4 : 100 < (str ti).size
  · go_enter Tryz.func5, Tryz.ntmps5
    go_wp2_with fail
    go_ret
    exact ⟨ret_bool (by rw [hL.out]; simp [h4]), B0.out⟩
  go_enter Tryz.func5, Tryz.ntmps5
  go_wp2_with fail
  go_ret
  exact ⟨ret_bool (by rw [hL.out]; simp only [dec100]), B0.out⟩
end Go.Proofs.YtnhemjdmleilcaaGreatDoor
