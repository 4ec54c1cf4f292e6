/- Addresses read back, and the walk of the law AddrRoundTrip. Conditions: Env, the library's own tables. -/
import Derived.Test.YtaabmekdnkcdaaaDoorAddrM
namespace Go.Proofs.YtaabmekdnkcdaaaDoor
open Go.RowKit

theorem digC_nat : ∀ n : Nat, n < 10 → (digC n).toNat = 48 + n := by decide +kernel
theorem dec_digs (n : Nat) : ∀ x ∈ dec n, 48 ≤ x.toNat ∧ x.toNat ≤ 57 := by
  induction n using Nat.strongRecOn with
  | ind n ih =>
    by_cases h : n < 10
    · rw [dec_small h]
      intro x hx
      obtain rfl := List.mem_singleton.1 hx
      rw [digC_nat n h]; omega
    · rw [dec_big h]
      intro x hx
      rcases List.mem_append.1 hx with hx | hx
      · exact ih (n / 10) (by omega) x hx
      · obtain rfl := List.mem_singleton.1 hx
        rw [digC_nat _ (Nat.mod_lt _ (by omega))]; omega
theorem dec_nodot (n : Nat) : ∀ x ∈ dec n, (x.toNat : Int) ≠ 46 := fun x hx => by have := dec_digs n x hx; omega
theorem dots_fmt (a : Nat) : dots (fmtA a) = [dec (byteA a 0), dec (byteA a 1), dec (byteA a 2), dec (byteA a 3)] := by
  rw [fmtA_eq]
  simp only [List.append_assoc, List.cons_append, List.nil_append]
  unfold dots
  rw [dotGo_hit _ _ _ (dec_nodot _), dotGo_hit _ _ _ (dec_nodot _), dotGo_hit _ _ _ (dec_nodot _), dotGo_none _ _ (dec_nodot _)]
  simp
theorem numIn_dec {n : Nat} (h : n ≤ 255) : numIn (dec n) 0 255 = some (n : Int) := by
  unfold numIn; rw [numOf_dec n (by omega)]; simp only []; rw [if_pos (by omega)]
theorem parse_fmt {a : Nat} (ha : a < 4294967296) : parseA (fmtA a) = some a := by
  unfold parseA
  rw [dots_fmt, if_pos (by rfl)]
  have h0 := byteA_lt a 0
  have h1 := byteA_lt a 1
  have h2 := byteA_lt a 2
  have h3 := byteA_lt a 3
  rw [octs_yes (numIn_dec (by omega)), octs_yes (numIn_dec (by omega)), octs_yes (numIn_dec (by omega)), octs_yes (numIn_dec (by omega)), octs]
  congr 1
  unfold byteA oct
  simp only [Nat.reduceMul, Nat.reduceSub, Nat.reducePow, Nat.pow_zero]
  omega

theorem parse_back {a : Nat} (ha : a < 4294967296) (w : World) (he : Env w) : Calls Tryd.prog 13 #[.string (str (fmtA a))] w fun e w' => e = .returned (.tuple #[.int .u32 (a : Int), .bool true]) ∧ Below w.heap.size w w' :=
  parse_some (by rw [bytes_str, parse_fmt ha]) w he (by rw [str_size]; have := fmtA_len a; omega)

set_option maxHeartbeats 1000000 in
theorem addrRoundTrip_walk (a : Nat) (w : World) (he : Env w) (ha : a < 4294967296) : Calls Tryd.prog 4 #[.int .u32 (a : Int)] w fun e w' => e = .returned (.bool true) ∧ Below w.heap.size w w' := by
  have HE := Lib.hid he
  clear he
  have H1 := Lib.hid (fun w he => format_any a w ha he)
  have H2 := Lib.hid (fun w he => parse_back ha w he)
  have H3 := Lib.hid (fun w => dotted_any a w ha)
  generalize str (fmtA a) = s at H1 H2 H3
  have B0 : Below w.heap.size w w := Below.refl _ _
  go_enter Tryd.func4, Tryd.ntmps4
  go_wp2_with fail
  refine (H1.out _ HE.out).mono ?_
  rintro e w1 ⟨rfl, hb1⟩
  go_wp2_with fail
  refine (H2.out _ (HE.out.below hb1)).mono ?_
  rintro e w2 ⟨rfl, hb2⟩
  have B2 := hb1.trans (hb2.mono hb1.size)
  go_wp2_with fail
  refine (H1.out _ (HE.out.below B2)).mono ?_
  rintro e w3 ⟨rfl, hb3⟩
  have B3 := B2.trans (hb3.mono B2.size)
  go_wp2_with fail
  refine (H3.out _).mono ?_
  rintro e w4 ⟨rfl, rfl⟩
  go_wp2_with fail
  refine (sane2_any _ (HE.out.below B3)).mono ?_
  rintro e w5 ⟨rfl, hb5⟩
  go_wp2_with fail
  go_ret
  exact ⟨rfl, B3.trans (hb5.mono B3.size)⟩
end Go.Proofs.YtaabmekdnkcdaaaDoor
