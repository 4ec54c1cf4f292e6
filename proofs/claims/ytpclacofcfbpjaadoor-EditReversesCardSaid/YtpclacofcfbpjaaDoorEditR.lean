/- The walk of the law EditFlips. Condition: MaxLen's cell. -/
import Derived.Test.YtpclacofcfbpjaaDoorEditQ
import Derived.Test.YtpclacofcfbpjaaDoorArgs
namespace Go.Proofs.YtpclacofcfbpjaaDoor
open Go.RowKit

theorem all_snoc {ls : List (List UInt8)} {n k : Nat} (hk : k < ls.length) (h : ∀ l ∈ ls.take k, l.length ≤ n) (hl : (ls[k]).length ≤ n) : ∀ l ∈ ls.take (k + 1), l.length ≤ n := by
  rw [List.take_succ_eq_append_getElem hk]
  intro l hm
  rcases List.mem_append.1 hm with h1 | h1
  · exact h l h1
  · obtain rfl : l = ls[k] := by simpa using h1
    exact hl

set_option maxHeartbeats 1000000 in
theorem editFlips_walk (A : Option Addr) (len cap : Nat) (zs : List (List UInt8)) (k : Int) (w : World) (hM : MaxCell w) (hS : StrsArg w A len cap zs) (_ : len ≤ cap) (_ : (Lit.int .i64 k).wf = true) :
    Calls Tryd.prog 3 #[.slice A len cap, .int .i64 k] w fun e w' => e = .returned (.bool true) ∧ Below w.heap.size w w' := by
  obtain ⟨hs, rfl, _⟩ := hS
  obtain ⟨i0, hi0, hz0, hz1, hz2⟩ := info_parts Tryd.strInfo
  have Hi0 := Lib.hid hi0
  have Hz0 := Lib.hid hz0
  have Hz1 := Lib.hid hz1
  have Hz2 := Lib.hid hz2
  have HAW := Lib.hid (awake_any w hM)
  have HM := Lib.hid hM
  have HS := Lib.hid hs
  clear hi0 hz0 hz1 hz2 hM hs
  go_enter Tryd.func3, Tryd.ntmps3
  go_wp2_with fail
  refine HAW.out.mono ?_
  rintro e w1 ⟨rfl, hb1⟩
  by_cases h40 : 40 < zs.length
  · go_wp2_with fail
    go_ret
    exact ⟨rfl, hb1⟩
  have d40 : decide ((40 : Int) < zs.length) = false := decide_eq_false (by omega)
  have HS1 := Lib.hid ((HS.out.below hb1).mono hb1.size)
  have HM1 := Lib.hid (HM.out.below hb1)
  clear HS HM HAW
  go_wp2_with fail
  go_loop [4, 5] (fun _ ix => ∃ q : Nat, q ≤ zs.length ∧ ix = .int .i64 q ∧ Hid (∀ l ∈ zs.take q, l.length ≤ 200)) (fun _ ix => zs.length - (intOf ix).toNat)
  case atStart => exact ⟨0, by omega, rfl, Lib.hid (by simp)⟩
  case round =>
    obtain ⟨q, hq, rfl, H⟩ := hrel
    by_cases hlt : q < zs.length
    · obtain ⟨g, o, eA, _, c1⟩ := slc_at HS1.out rfl hlt
      have HA := Lib.hid (fun h => all_snoc hlt H.out h)
      generalize zs[q] = x at c1 HA
      unfold strV at c1
      subst eA
      have hx := str_size x
      by_cases hl : 200 < (str x).size
      · clear hx
        go_wp2_with fail
        go_ret
        exact ⟨rfl, hb1⟩
      · have HB := Lib.hid (HA.out (by omega))
        clear hx
        go_wp2_with fail
        go_round
        case rel => exact ⟨q + 1, by omega, by go_num, HB⟩
        case measure => simp [intOf]; omega
    · have hall : ∀ l ∈ zs, l.length ≤ 1000000000 := fun l h => Nat.le_trans (H.out l (by rw [List.take_of_length_le (by omega)]; exact h)) (by decide)
      have HALL := Lib.hid hall
      clear hall H
      go_wp2_with (first | (at_builtin; refine wpList_appendS _ rfl _ _ 22 rfl w1.heap.size 9 i0 _ 1 16 Tryd.underlying22 Hi0.out Hz0.out Hz1.out Hz2.out rfl (by decide) _ 0 [] rfl (World.ownsRow_nil _ _ _ _) _ w1.heap.size zs.length (zs.map strV) rfl HS1.out (fun u h => by obtain ⟨x, _, rfl⟩ := List.mem_map.1 h; rfl) (by omega) (by decide) (Nat.le_refl _) ?_; intro v2 w2 hown hb2))
      have hsl : Sl w2 w2.heap.size v2 zs := Sl.of_own (by simpa using hown)
      obtain ⟨A2, c2, rfl, hc2, _, hs2⟩ := hsl.form
      have HF := Lib.hid (flip_any A2 zs.length c2 zs k w2 hs2 rfl HALL.out (HM1.out.below hb2) hc2)
      have HS2 := Lib.hid ((HS1.out.below hb2).mono hb2.size)
      clear hsl hs2 hown
      go_wp2_with fail
      refine HF.out.mono ?_
      rintro e w3 ⟨rfl, hb3⟩
      have HG := Lib.hid (rflip_any A zs.length cap zs k w3 ((HS2.out.below hb3).mono hb3.size) rfl HALL.out)
      unfold flipV
      go_wp2_with fail
      refine HG.out.mono ?_
      rintro e w4 ⟨rfl, hb4⟩
      unfold flipV
      have hbb : Below w.heap.size w w4 := ((hb1.trans (hb2.mono hb1.size)).trans (hb3.mono (Nat.le_trans hb1.size hb2.size))).trans (hb4.mono (Nat.le_trans (Nat.le_trans hb1.size hb2.size) hb3.size))
      go_wp2_with fail
      go_ret
      exact ⟨rfl, hbb⟩
end Go.Proofs.YtpclacofcfbpjaaDoor
