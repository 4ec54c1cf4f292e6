/- The walk of the law EditFlipsWords. Condition: MaxLen's cell. -/
import Derived.Test.YtpclacofcfbpjaaDoorEditR
import Derived.Deep.Cut
namespace Go.Proofs.YtpclacofcfbpjaaDoor
open Go.RowKit

def words : List (List UInt8) := [wPermit, wDeny, wAccept, wReject, wDiscard, [59], [32], [9], [102, 105, 108, 116, 101, 114, 32, 102, 32, 123], [112, 111, 108, 105, 99, 121, 32, 112, 32, 123], [116, 101, 114, 109, 32, 123], [125], [112, 101, 114, 109, 105, 116, 115], [49, 48, 46, 48, 46, 48, 46, 48, 47, 56], [33]]
theorem words_short : ∀ x ∈ words, x.length ≤ 11 := by decide
theorem str_app2 (x y : List UInt8) : str x ++ str y = str (x ++ y) := by
  apply ByteArray.ext; simp [str, ByteArray.data_append]
theorem str_app32 (a b : List UInt8) : str a ++ str b ++ (⟨#[32]⟩ : ByteArray) = str (a ++ b ++ [32]) := by
  rw [str_app2]; exact str_app2 _ [32]
theorem word_cell {w : World} {B g m : Nat} (h : Sl w B (.slice (some ⟨g, 0, none⟩) 15 15) words) (hm : m < words.length) : w.cell? ⟨g, m, none⟩ = some (.string (str words[m])) := by
  obtain ⟨A, c, e, _, hs⟩ := h
  injection e with e1 e2 e3
  subst e1
  obtain ⟨g2, o2, e2, _, c1⟩ := slc_at hs rfl hm
  injection e2 with e2
  injection e2 with e3 e4
  subst e3 e4
  rw [Nat.zero_add] at c1
  exact c1
theorem slc_u8 {w : World} {B : Nat} {A : Option Addr} {n c : Nat} {xs : List Int} (h : Slc w B 1 (.slice A n c) n (xs.map (Value.int .u8))) (hn : n = xs.length) {k : Nat} (hk : k < xs.length) :
    ∃ g o, A = some ⟨g, o, none⟩ ∧ g < B ∧ w.cell? ⟨g, o + k, none⟩ = some (.int .u8 xs[k]) := by
  obtain ⟨A', c', e, _, _, _, h⟩ := h
  injection e with e1 e2 e3
  subst e1
  obtain ⟨g, o, rfl, hg, hc⟩ := h (by omega)
  exact ⟨g, o, rfl, hg, hc k _ (by simp [hk])⟩

set_option maxRecDepth 100000 in
set_option maxHeartbeats 2000000 in
theorem editFlipsWords_walk (A : Option Addr) (len cap : Nat) (zs : List Int) (k : Int) (w : World) (hM : MaxCell w) (hS : BytesArg w A len cap zs) (_ : len ≤ cap) (hk : (Lit.int .i64 k).wf = true) :
    Calls Tryd.prog 4 #[.slice A len cap, .int .i64 k] w fun e w' => e = .returned (.bool true) ∧ Below w.heap.size w w' := by
  obtain ⟨hs, rfl, hz8⟩ := hS
  obtain ⟨i0, hi0, hz0, hz1, hz2⟩ := info_parts Tryd.strInfo
  have Hi0 := Lib.hid hi0
  have Hz0 := Lib.hid hz0
  have Hz1 := Lib.hid hz1
  have Hz2 := Lib.hid hz2
  have HAW := Lib.hid (awake_any w hM)
  have HM := Lib.hid hM
  have HS := Lib.hid hs
  have HZ8 := Lib.hid hz8
  have hkb : -9223372036854775808 ≤ k ∧ k ≤ 9223372036854775807 := by simpa [Lit.wf, IntKind.min, IntKind.max, IntKind.signed, IntKind.bits] using hk
  clear hi0 hz0 hz1 hz2 hM hs hz8 hk
  go_enter Tryd.func4, Tryd.ntmps4
  go_wp2_with fail
  refine HAW.out.mono ?_
  rintro e w1 ⟨rfl, hb1⟩
  by_cases h60 : 60 < zs.length
  · go_wp2_with fail
    go_ret
    exact ⟨rfl, hb1⟩
  have d60 : decide ((60 : Int) < zs.length) = false := decide_eq_false (by omega)
  have HS1 := Lib.hid (HS.out.below hb1)
  have HM1 := Lib.hid (HM.out.below hb1)
  clear HS HM HAW
  have HW0 := Lib.hid (sl_new w1 words #[.string ⟨#[112, 101, 114, 109, 105, 116]⟩, .string ⟨#[100, 101, 110, 121]⟩, .string ⟨#[97, 99, 99, 101, 112, 116]⟩, .string ⟨#[114, 101, 106, 101, 99, 116]⟩, .string ⟨#[100, 105, 115, 99, 97, 114, 100]⟩, .string ⟨#[59]⟩, .string ⟨#[32]⟩, .string ⟨#[9]⟩, .string ⟨#[102, 105, 108, 116, 101, 114, 32, 102, 32, 123]⟩, .string ⟨#[112, 111, 108, 105, 99, 121, 32, 112, 32, 123]⟩, .string ⟨#[116, 101, 114, 109, 32, 123]⟩, .string ⟨#[125]⟩, .string ⟨#[112, 101, 114, 109, 105, 116, 115]⟩, .string ⟨#[49, 48, 46, 48, 46, 48, 46, 48, 47, 56]⟩, .string ⟨#[33]⟩] 9 rfl (by decide))
  have hbx := below_box w1 (.cells #[.string ⟨#[112, 101, 114, 109, 105, 116]⟩, .string ⟨#[100, 101, 110, 121]⟩, .string ⟨#[97, 99, 99, 101, 112, 116]⟩, .string ⟨#[114, 101, 106, 101, 99, 116]⟩, .string ⟨#[100, 105, 115, 99, 97, 114, 100]⟩, .string ⟨#[59]⟩, .string ⟨#[32]⟩, .string ⟨#[9]⟩, .string ⟨#[102, 105, 108, 116, 101, 114, 32, 102, 32, 123]⟩, .string ⟨#[112, 111, 108, 105, 99, 121, 32, 112, 32, 123]⟩, .string ⟨#[116, 101, 114, 109, 32, 123]⟩, .string ⟨#[125]⟩, .string ⟨#[112, 101, 114, 109, 105, 116, 115]⟩, .string ⟨#[49, 48, 46, 48, 46, 48, 46, 48, 47, 56]⟩, .string ⟨#[33]⟩] 9)
  have hzx : (w1.alloc (.cells #[.string ⟨#[112, 101, 114, 109, 105, 116]⟩, .string ⟨#[100, 101, 110, 121]⟩, .string ⟨#[97, 99, 99, 101, 112, 116]⟩, .string ⟨#[114, 101, 106, 101, 99, 116]⟩, .string ⟨#[100, 105, 115, 99, 97, 114, 100]⟩, .string ⟨#[59]⟩, .string ⟨#[32]⟩, .string ⟨#[9]⟩, .string ⟨#[102, 105, 108, 116, 101, 114, 32, 102, 32, 123]⟩, .string ⟨#[112, 111, 108, 105, 99, 121, 32, 112, 32, 123]⟩, .string ⟨#[116, 101, 114, 109, 32, 123]⟩, .string ⟨#[125]⟩, .string ⟨#[112, 101, 114, 109, 105, 116, 115]⟩, .string ⟨#[49, 48, 46, 48, 46, 48, 46, 48, 47, 56]⟩, .string ⟨#[33]⟩] 9)).heap.size = w1.heap.size + 1 := by simp
  have HZX := Lib.hid hzx
  clear hzx
  go_wp2_with fail
  go_loopw [6, 7, 8, 9] (fun v sv ix _ wr => ∃ (q : Nat) (ls : List (List UInt8)) (x : List UInt8), q ≤ zs.length ∧ ix = .int .i64 q ∧ sv = .string (str x) ∧ ls.length ≤ q ∧ x.length ≤ 12 * q ∧ Hid (∀ l ∈ ls, l.length ≤ 720) ∧
      wr.ownsRow (w1.heap.size + 1) 9 1 v ls.length (ls.map strV) ∧ Hid (Sl wr (w1.heap.size + 1) (.slice (some ⟨w1.heap.size, 0, none⟩) 15 15) words) ∧ w1.heap.size + 1 ≤ wr.heap.size ∧ Below w1.heap.size w1 wr) (fun _ _ ix _ _ => zs.length - (intOf ix).toNat)
  case atStart => exact ⟨0, [], [], by omega, rfl, rfl, by simp, by simp, Lib.hid (by simp), World.ownsRow_nil _ _ _ _, Lib.hid (by have h := HW0.out; rw [HZX.out] at h; exact h), Nat.le_of_eq HZX.out.symm, hbx⟩
  case round =>
    clear hbx HZX HW0
    obtain ⟨q, xs, x, hq, rfl, rfl, hxl, hx, HX, hown, HW, hzW, hbW⟩ := hrel
    have hxs : (str x).size ≤ 720 := by rw [str_size]; omega
    by_cases hlt : q < zs.length
    · obtain ⟨g, o, eA, hg, c1⟩ := slc_u8 (HS1.out.below (hbW.mono hb1.size)) rfl hlt
      have hz8 := HZ8.out _ (List.getElem_mem hlt)
      generalize zs[q] = z at c1 hz8
      obtain ⟨zn, rfl⟩ : ∃ n : Nat, z = n := ⟨z.toNat, by omega⟩
      subst eA
      by_cases hm : 15 ≤ zn % 18
      · have t1 : (15 : Int) ≤ (zn : Int) % 18 := by omega
        go_wp2_with (first | (at_builtin; refine wpList_append1 _ rfl _ _ 22 rfl (w1.heap.size + 1) 9 i0 _ 1 16 Tryd.underlying22 Hi0.out Hz0.out Hz1.out Hz2.out rfl (by decide) _ xs.length (xs.map strV) rfl hown #[.string (str x)] rfl rfl (one_str _) (by omega) (by decide) hzW ?_; intro v2 w2 hown2 hb4))
        go_roundw
        case rel => exact ⟨q + 1, xs ++ [x], [], by omega, by go_num, rfl, by simp; omega, by simp, Lib.hid (fun l h => by
            rcases List.mem_append.1 h with h | h
            · exact HX.out l h
            · obtain rfl : l = x := by simpa using h
              omega), by have h := hown2; rw [show (#[Value.string (str x)] : Array Value).toList = [strV x] from rfl] at h; simpa using h, Lib.hid (HW.out.below hb4), Nat.le_trans hzW hb4.size, hbW.trans (hb4.mono (by omega))⟩
        case measure => simp [intOf]; omega
      · have t1 : ¬ (15 : Int) ≤ (zn : Int) % 18 := by omega
        have hmw : zn % 18 < words.length := by simp [words]; omega
        have cw1 := word_cell HW.out hmw
        have hws := words_short _ (List.getElem_mem hmw)
        generalize words[zn % 18] = y at cw1 hws
        have hys : (str y).size ≤ 11 := by rw [str_size]; exact hws
        by_cases h128 : 128 ≤ zn
        · have t2 : (128 : Int) ≤ (zn : Int) := by omega
          go_wp2_with fail
          go_roundw
          case rel => exact ⟨q + 1, xs, x ++ y ++ [32], by omega, by go_num, by rw [str_app32], by omega, by simp only [List.length_append, List.length_cons, List.length_nil]; omega, HX, hown, HW, hzW, hbW⟩
          case measure => simp [intOf]; omega
        · have t2 : ¬ (128 : Int) ≤ (zn : Int) := by omega
          go_wp2_with fail
          go_roundw
          case rel => exact ⟨q + 1, xs, x ++ y, by omega, by go_num, by rw [str_app2], by omega, by simp only [List.length_append]; omega, HX, hown, HW, hzW, hbW⟩
          case measure => simp [intOf]; omega
    · have HALL : Hid (∀ l ∈ xs ++ [x], l.length ≤ 1000000000) := Lib.hid (fun l h => by
        rcases List.mem_append.1 h with h | h
        · exact Nat.le_trans (HX.out l h) (by decide)
        · obtain rfl : l = x := by simpa using h
          omega)
      clear HX
      go_upto_region 19 with (first | (at_builtin; refine wpList_append1 _ rfl _ _ 22 rfl (w1.heap.size + 1) 9 i0 _ 1 16 Tryd.underlying22 Hi0.out Hz0.out Hz1.out Hz2.out rfl (by decide) _ xs.length (xs.map strV) rfl hown #[.string (str x)] rfl rfl (one_str _) (by omega) (by decide) hzW ?_; intro v9 wq hown9 hb9))
      have hown10 : wq.ownsRow (w1.heap.size + 1) 9 1 v9 (xs ++ [x]).length ((xs ++ [x]).map strV) := by
        have h := hown9; rw [show (#[Value.string (str x)] : Array Value).toList = [strV x] from rfl] at h; simpa using h
      have HSC : Hid (Slc wq wq.heap.size 1 v9 (xs ++ [x]).length ((xs ++ [x]).map strV)) := Lib.hid (Slc.of_own hown10)
      have hzl : (xs ++ [x]).length ≤ 61 := by simp; omega
      have hzp : 0 < (xs ++ [x]).length := by simp
      obtain ⟨Av, cv, ev⟩ := slc_form HSC.out
      subst ev
      have hzW2 : w1.heap.size + 1 ≤ wq.heap.size := Nat.le_trans hzW hb9.size
      have hbW2 : Below w1.heap.size w1 wq := hbW.trans (hb9.mono (by omega))
      clear hown hown9 hown10 hb9 hbW hzW HW
      generalize hzz : xs ++ [x] = zl at *
      have HZZ := Lib.hid hzz
      clear hzz
      have hbW := hbW2
      have hzW := hzW2
      clear hbW2 hzW2
      by_cases hk0 : 0 ≤ k
      · have hzl2 : (0 : Int) < (zl.length : Int) := by omega
        go_wp2_with (first | (at_builtin; refine wpList_appendS _ rfl _ _ 22 rfl wq.heap.size 9 i0 _ 1 16 Tryd.underlying22 Hi0.out Hz0.out Hz1.out Hz2.out rfl (by decide) _ 0 [] rfl (World.ownsRow_nil _ _ _ _) _ wq.heap.size zl.length (zl.map strV) rfl HSC.out (fun u h => by obtain ⟨x, _, rfl⟩ := List.mem_map.1 h; rfl) (by omega) (by decide) (Nat.le_refl _) ?_; intro v2 w2 hown2 hb4))
        have hsl : Sl w2 w2.heap.size v2 zl := Sl.of_own (by simpa using hown2)
        obtain ⟨A2, c2, rfl, hc2, _, hs2⟩ := hsl.form
        have hbW2 : Below w1.heap.size w1 w2 := hbW.trans (hb4.mono (by omega))
        have hz2 : w1.heap.size + 1 ≤ w2.heap.size := Nat.le_trans hzW hb4.size
        have HF := Lib.hid (flip_any A2 zl.length c2 zl (k % (zl.length : Int)) w2 hs2 rfl HALL.out (HM1.out.below hbW2) hc2)
        have HS2 := Lib.hid ((HSC.out.below hb4).mono hb4.size)
        clear hsl hs2 hown2
        go_wp2_with fail
        refine HF.out.mono ?_
        rintro e w3 ⟨rfl, hb5⟩
        have HG := Lib.hid (rflip_any Av zl.length cv zl (k % (zl.length : Int)) w3 ((HS2.out.below hb5).mono hb5.size) rfl HALL.out)
        unfold flipV
        go_wp2_with fail
        refine HG.out.mono ?_
        rintro e w4 ⟨rfl, hb6⟩
        unfold flipV
        have hbb : Below w.heap.size w w4 := ((hb1.trans (hbW2.mono hb1.size)).trans (hb5.mono (by have := hb1.size; omega))).trans (hb6.mono (by have := hb1.size; have := hb5.size; omega))
        go_wp2_with fail
        go_ret
        exact ⟨rfl, hbb⟩
      · have hk1 : k < 0 := by omega
        clear hk0
        go_wp2_with (first | (at_builtin; refine wpList_appendS _ rfl _ _ 22 rfl wq.heap.size 9 i0 _ 1 16 Tryd.underlying22 Hi0.out Hz0.out Hz1.out Hz2.out rfl (by decide) _ 0 [] rfl (World.ownsRow_nil _ _ _ _) _ wq.heap.size zl.length (zl.map strV) rfl HSC.out (fun u h => by obtain ⟨x, _, rfl⟩ := List.mem_map.1 h; rfl) (by omega) (by decide) (Nat.le_refl _) ?_; intro v2 w2 hown2 hb4))
        have hsl : Sl w2 w2.heap.size v2 zl := Sl.of_own (by simpa using hown2)
        obtain ⟨A2, c2, rfl, hc2, _, hs2⟩ := hsl.form
        have hbW2 : Below w1.heap.size w1 w2 := hbW.trans (hb4.mono (by omega))
        have hz2 : w1.heap.size + 1 ≤ w2.heap.size := Nat.le_trans hzW hb4.size
        have HF := Lib.hid (flip_any A2 zl.length c2 zl k w2 hs2 rfl HALL.out (HM1.out.below hbW2) hc2)
        have HS2 := Lib.hid ((HSC.out.below hb4).mono hb4.size)
        clear hsl hs2 hown2
        go_wp2_with fail
        refine HF.out.mono ?_
        rintro e w3 ⟨rfl, hb5⟩
        have HG := Lib.hid (rflip_any Av zl.length cv zl k w3 ((HS2.out.below hb5).mono hb5.size) rfl HALL.out)
        unfold flipV
        go_wp2_with fail
        refine HG.out.mono ?_
        rintro e w4 ⟨rfl, hb6⟩
        unfold flipV
        have hbb : Below w.heap.size w w4 := ((hb1.trans (hbW2.mono hb1.size)).trans (hb5.mono (by have := hb1.size; omega))).trans (hb6.mono (by have := hb1.size; have := hb5.size; omega))
        go_wp2_with fail
        go_ret
        exact ⟨rfl, hbb⟩
end Go.Proofs.YtpclacofcfbpjaaDoor
