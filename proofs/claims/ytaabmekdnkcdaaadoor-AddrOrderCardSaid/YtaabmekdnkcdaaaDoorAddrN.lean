/- The walk of the law AddrOrder. Conditions: Env, the library's own tables. -/
import Derived.Test.YtaabmekdnkcdaaaDoorAddrM
namespace Go.Proofs.YtaabmekdnkcdaaaDoor
open Go.RowKit

set_option maxRecDepth 100000 in
set_option maxHeartbeats 2000000 in
theorem addrOrder_walk (p : Nat) (n : Int) (q : Nat) (m : Int) (r : Nat) (k : Int) (w : World) (he : Env w) (_ : p < 4294967296) (_ : (Lit.int .i64 n).wf = true) (_ : q < 4294967296) (_ : (Lit.int .i64 m).wf = true) (_ : r < 4294967296) (_ : (Lit.int .i64 k).wf = true) :
    Calls Tryd.prog 11 #[.agg #[.int .u32 (p : Int), .int .i64 n], .agg #[.int .u32 (q : Int), .int .i64 m], .agg #[.int .u32 (r : Int), .int .i64 k]] w fun e w' => e = .returned (.bool true) ∧ Below w.heap.size w w' := by
  have HE := Lib.hid he
  clear he
  have hb := cmpP_bd p n q m
  have hn := cmpP_neg p n q m
  have hz := cmpP_zero p n q m
  have hr := pfx_eql p q n m
  rw [hz] at hr
  clear hz
  have ht := @cmpP_trans p n q m r k
  generalize h1 : cmpP p n q m = c at *
  generalize h2 : cmpP q m r k = d at *
  generalize h3 : cmpP p n r k = f at *
  have H1 := Lib.hid (fun w => compare_to h1 w)
  have H2 := Lib.hid (fun w => rcompare_to h1 w)
  have H3 := Lib.hid (fun w => compare_to hn w)
  have H4 := Lib.hid (fun w => compare_to h2 w)
  have H5 := Lib.hid (fun w => compare_to h3 w)
  have hg := Tryd.pfxGuard
  clear h1 h2 h3 hn
  have BOX : Hid (∀ w1, Below w.heap.size w w1 → Env w1) := Lib.hid (fun w1 h => HE.out.below h)
  have X0 := box3_new w p n q m r k 32
  have B0 := below3 w (.cells #[.int .u32 (p : Int), .int .i64 n] 32) (.cells #[.int .u32 (q : Int), .int .i64 m] 32) (.cells #[.int .u32 (r : Int), .int .i64 k] 32)
  by_cases e1 : 0 < c
  · have D1 : decide (c > 0) = true := by simp; omega
    go_enter Tryd.func11, Tryd.ntmps11
    go_wp2_with fail
    refine (H1.out _).mono ?_
    rintro e w1 ⟨rfl, hb1⟩
    have X1 := X0.below hb1
    have B1 := B0.trans (hb1.mono B0.size)
    clear hb1
    obtain ⟨⟨c0, c1, c2, c3, c4, c5⟩, _⟩ := id X1
    go_wp2_with fail
    clear c0 c1 c2 c3 c4 c5
    refine (H2.out _).mono ?_
    rintro e w2 ⟨rfl, hb2⟩
    have X2 := X1.below hb2
    have B2 := B1.trans (hb2.mono B1.size)
    clear hb2
    obtain ⟨⟨c0, c1, c2, c3, c4, c5⟩, _⟩ := id X2
    go_wp2_with fail
    clear c0 c1 c2 c3 c4 c5
    refine (H3.out _).mono ?_
    rintro e w3 ⟨rfl, hb3⟩
    have X3 := X2.below hb3
    have B3 := B2.trans (hb3.mono B2.size)
    clear hb3
    obtain ⟨⟨c0, c1, c2, c3, c4, c5⟩, _⟩ := id X3
    go_wp2_with fail
    clear c0 c1 c2 c3 c4 c5
    refine (sane2_any _ (HE.out.below B3)).mono ?_
    rintro e w9 ⟨rfl, hb9⟩
    go_wp2_with fail
    go_ret
    exact ⟨rfl, B3.trans (hb9.mono B3.size)⟩
  have D1 : decide (c > 0) = false := by simp; omega
  by_cases e2 : 0 < d
  · have D2 : decide (d > 0) = true := by simp; omega
    go_enter Tryd.func11, Tryd.ntmps11
    go_wp2_with fail
    refine (H1.out _).mono ?_
    rintro e w1 ⟨rfl, hb1⟩
    have X1 := X0.below hb1
    have B1 := B0.trans (hb1.mono B0.size)
    clear hb1
    obtain ⟨⟨c0, c1, c2, c3, c4, c5⟩, _⟩ := id X1
    go_wp2_with fail
    clear c0 c1 c2 c3 c4 c5
    refine (H2.out _).mono ?_
    rintro e w2 ⟨rfl, hb2⟩
    have X2 := X1.below hb2
    have B2 := B1.trans (hb2.mono B1.size)
    clear hb2
    obtain ⟨⟨c0, c1, c2, c3, c4, c5⟩, _⟩ := id X2
    go_wp2_with fail
    clear c0 c1 c2 c3 c4 c5
    refine (H3.out _).mono ?_
    rintro e w3 ⟨rfl, hb3⟩
    have X3 := X2.below hb3
    have B3 := B2.trans (hb3.mono B2.size)
    clear hb3
    obtain ⟨⟨c0, c1, c2, c3, c4, c5⟩, _⟩ := id X3
    go_wp2_with fail
    clear c0 c1 c2 c3 c4 c5
    refine (H4.out _).mono ?_
    rintro e w4 ⟨rfl, hb4⟩
    have X4 := X3.below hb4
    have B4 := B3.trans (hb4.mono B3.size)
    clear hb4
    obtain ⟨⟨c0, c1, c2, c3, c4, c5⟩, _⟩ := id X4
    go_wp2_with fail
    clear c0 c1 c2 c3 c4 c5
    refine (sane2_any _ (HE.out.below B4)).mono ?_
    rintro e w9 ⟨rfl, hb9⟩
    go_wp2_with fail
    go_ret
    exact ⟨rfl, B4.trans (hb9.mono B4.size)⟩
  · have D2 : decide (d > 0) = false := by simp; omega
    have D3 : decide (f ≤ 0) = true := by simp; omega
    go_enter Tryd.func11, Tryd.ntmps11
    go_wp2_with fail
    refine (H1.out _).mono ?_
    rintro e w1 ⟨rfl, hb1⟩
    have X1 := X0.below hb1
    have B1 := B0.trans (hb1.mono B0.size)
    clear hb1
    obtain ⟨⟨c0, c1, c2, c3, c4, c5⟩, _⟩ := id X1
    go_wp2_with fail
    clear c0 c1 c2 c3 c4 c5
    refine (H2.out _).mono ?_
    rintro e w2 ⟨rfl, hb2⟩
    have X2 := X1.below hb2
    have B2 := B1.trans (hb2.mono B1.size)
    clear hb2
    obtain ⟨⟨c0, c1, c2, c3, c4, c5⟩, _⟩ := id X2
    go_wp2_with fail
    clear c0 c1 c2 c3 c4 c5
    refine (H3.out _).mono ?_
    rintro e w3 ⟨rfl, hb3⟩
    have X3 := X2.below hb3
    have B3 := B2.trans (hb3.mono B2.size)
    clear hb3
    obtain ⟨⟨c0, c1, c2, c3, c4, c5⟩, _⟩ := id X3
    go_wp2_with fail
    clear c0 c1 c2 c3 c4 c5
    refine (H4.out _).mono ?_
    rintro e w4 ⟨rfl, hb4⟩
    have X4 := X3.below hb4
    have B4 := B3.trans (hb4.mono B3.size)
    clear hb4
    obtain ⟨⟨c0, c1, c2, c3, c4, c5⟩, _⟩ := id X4
    go_wp2_with fail
    clear c0 c1 c2 c3 c4 c5
    refine (H5.out _).mono ?_
    rintro e w5 ⟨rfl, hb5⟩
    have X5 := X4.below hb5
    have B5 := B4.trans (hb5.mono B4.size)
    clear hb5
    obtain ⟨⟨c0, c1, c2, c3, c4, c5⟩, _⟩ := id X5
    go_wp2_with fail
    clear c0 c1 c2 c3 c4 c5
    refine (sane2_any _ (HE.out.below B5)).mono ?_
    rintro e w9 ⟨rfl, hb9⟩
    go_wp2_with fail
    go_ret
    exact ⟨rfl, B5.trans (hb9.mono B5.size)⟩
end Go.Proofs.YtaabmekdnkcdaaaDoor
