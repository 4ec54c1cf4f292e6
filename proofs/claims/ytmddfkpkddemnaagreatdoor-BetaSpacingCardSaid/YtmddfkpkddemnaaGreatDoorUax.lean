/- The walk of the statement BetaSpacing, over Parse's contract. Condition: Go's own tables lie in memory (EnvA). -/
import Derived.Test.YtmddfkpkddemnaaGreatDoorUz
import Derived.Test.YtmddfkpkddemnaaGreatDoorUau
import Derived.Test.YtmddfkpkddemnaaGreatDoorUav
import Derived.Test.YtmddfkpkddemnaaGreatDoorUaw
namespace Go.Proofs.YtmddfkpkddemnaaGreatDoor
open Go.RowKit
theorem flat_get : ∀ (xs : List (Int × List UInt8)) (k : Nat) (h : k < xs.length), (xs.flatMap tokCells)[k * 2]? = some (.int .i64 xs[k].1) ∧ (xs.flatMap tokCells)[k * 2 + 1]? = some (strV xs[k].2) := by
  intro xs
  induction xs with
  | nil => intro k h; simp at h
  | cons x r ih =>
    intro k h
    cases k with
    | zero => simp [tokCells]
    | succ k =>
      have := ih k (by simpa using h)
      have e1 : (k + 1) * 2 = k * 2 + 1 + 1 := by omega
      have e2 : (k + 1) * 2 + 1 = k * 2 + 1 + 1 + 1 := by omega
      rw [e1]
      simpa [tokCells] using this
theorem slc_tok {w : World} {B : Nat} {A : Option Addr} {n c : Nat} {xs : List (Int × List UInt8)} (h : Slc w B 2 (.slice A n c) n (xs.flatMap tokCells)) (hn : n = xs.length) {k : Nat} (hk : k < xs.length) :
    ∃ g o, A = some ⟨g, o, none⟩ ∧ g < B ∧ w.cell? ⟨g, o + k * 2, none⟩ = some (.int .i64 xs[k].1) ∧ w.cell? ⟨g, o + k * 2 + 1, none⟩ = some (strV xs[k].2) := by
  obtain ⟨A', c', e, _, _, _, h⟩ := h
  injection e with e1 e2 e3
  subst e1
  obtain ⟨g, o, rfl, hg, hc⟩ := h (by omega)
  obtain ⟨h1, h2⟩ := flat_get xs k hk
  exact ⟨g, o, rfl, hg, hc _ _ h1, hc _ _ h2⟩
theorem slc_int {w : World} {B : Nat} {A : Option Addr} {n c : Nat} {xs : List Int} {K : IntKind} (h : Slc w B 1 (.slice A n c) n (xs.map (Value.int K))) (hn : n = xs.length) {k : Nat} (hk : k < xs.length) :
    ∃ g o, A = some ⟨g, o, none⟩ ∧ g < B ∧ w.cell? ⟨g, o + k, none⟩ = some (.int K xs[k]) := by
  obtain ⟨A', c', e, _, _, _, h⟩ := h
  injection e with e1 e2 e3
  subst e1
  obtain ⟨g, o, rfl, hg, hc⟩ := h (by omega)
  exact ⟨g, o, rfl, hg, hc k _ (by simp [hk])⟩
theorem joinG_snoc (x : List UInt8) : ∀ (xs : List (List UInt8)) (gs : List Nat), joinG (xs ++ [x]) gs = joinG xs gs ++ x ++ gapL (gs.getD xs.length 0)
  | [], gs => by cases gs <;> simp [joinG]
  | y :: ys, gs => by
    rw [List.cons_append, joinG, joinG, joinG_snoc x ys gs.tail]
    cases gs <;> simp
theorem joinG_step {xs : List (List UInt8)} {k : Nat} (gs : List Nat) (hk : k < xs.length) : joinG (xs.take (k + 1)) gs = joinG (xs.take k) gs ++ xs[k] ++ gapL (gs.getD k 0) := by
  rw [List.take_succ_eq_append_getElem hk, joinG_snoc, List.length_take, Nat.min_eq_left (by omega)]
theorem sum_take (xs : List (List UInt8)) (k : Nat) : ((xs.take k).map List.length).sum ≤ (xs.map List.length).sum := by
  conv => rhs; rw [← List.take_append_drop k xs]
  rw [List.map_append, List.sum_append]; omega
theorem gap_str2 (a x t : List UInt8) (b : ByteArray) (hb : b = str t) : str a ++ str x ++ b = str (a ++ x ++ t) := by rw [hb, str_app, str_app]
def gapsN (gs : List Int) : List Nat := gs.map fun g => (g % 4).toNat
theorem gapsN_at {gs : List Int} {k : Nat} (h : k < gs.length) : (gapsN gs).getD k 0 = (gs[k] % 4).toNat := by
  unfold gapsN
  rw [List.getD_eq_getElem?_getD, List.getElem?_map, List.getElem?_eq_getElem h]; rfl
theorem gapsN_out {gs : List Int} {k : Nat} (h : gs.length ≤ k) : (gapsN gs).getD k 0 = 0 := by
  unfold gapsN
  rw [List.getD_eq_getElem?_getD, List.getElem?_map, List.getElem?_eq_none h]; rfl
set_option maxHeartbeats 16000000 in
set_option maxRecDepth 100000 in
theorem betaSpacing_gen (E : Rt → Int) (PR : PRt E) (h0 : E saneR = 0) (s : ByteArray) (A : Option Addr) (len cap : Nat) (gs : List Int) (w : World) (he : EnvA w.heap.size w) (hG : BytesArg w A len cap gs) :
    Calls Tryz.prog 5 #[.string s, .slice A len cap] w fun e w' => e = .returned (.bool true) ∧ Below w.heap.size w w' := by
  obtain ⟨hg, hlen, hgb⟩ := hG
  have HG := Lib.hid hg
  have HL := Lib.hid hlen
  have HB := Lib.hid hgb
  have HSN := Lib.hid (fun (W : World) (hW : Below w.heap.size w W) => sane_gen E PR h0 W ((he.keep hW).up hW.size))
  have HP := Lib.hid (fun (T : ByteArray) (W : World) (hW : Below w.heap.size w W) => PR T W ((he.keep hW).up hW.size))
  clear hg hlen hgb he PR h0
  by_cases hs : 2000 < s.size
  · have hsz : (2000 : Int) < (s.size : Int) := by omega
    go_enter Tryz.func5, Tryz.ntmps5
    go_wp2_with fail
    go_ret
    exact ⟨rfl, Below.refl _ _⟩
  have hsz : ¬ ((2000 : Int) < (s.size : Int)) := by omega
  have HSZ : Hid (s.size ≤ 2000) := Lib.hid (by omega)
  clear hs
  go_enter Tryz.func5, Tryz.ntmps5
  go_wp2_with fail
  refine (rtokens_any s w).mono ?_
  rintro e w1 ⟨v1, rfl, ho1, hb1⟩
  have HB1 := Lib.hid hb1
  clear hb1 hsz
  by_cases hk : linesErr (bytes s) = 0
  rotate_left
  · have d1 : (linesErr (bytes s) != 0) = true := by simpa using hk
    clear ho1
    go_wp2_with fail
    go_ret
    exact ⟨rfl, HB1.out⟩
  have htk : tokRes (bytes s) = toksOf (bytes s) := if_pos hk
  rw [htk] at ho1
  obtain ⟨AT, ct, ev⟩ := slc_form (Slc.of_own ho1)
  subst ev
  have HT := Lib.hid (Slc.of_own ho1)
  have HN : Hid ((parseB E (joinG (txs (toksOf (bytes s))) (gapsN gs))).2 = (parseB E (bytes s)).2) := Lib.hid (parseB_gaps E hk (by have := HSZ.out; rw [bytes_len]; omega) (gapsN gs))
  have HJ : Hid (∀ k, (joinG ((txs (toksOf (bytes s))).take k) (gapsN gs)).length ≤ 26000) := Lib.hid (fun k => by
    have h1 := joinG_len ((txs (toksOf (bytes s))).take k) (gapsN gs)
    have h2 := sum_take (txs (toksOf (bytes s))) k
    have h3 := txs_size (bytes s)
    have h4 := HSZ.out
    rw [bytes_len] at h3
    rw [List.length_take] at h1
    omega)
  have HX : Hid (∀ k (h : k < (toksOf (bytes s)).length), (toksOf (bytes s))[k].2.length ≤ 2000) := Lib.hid (fun k h => by
    have h1 := (txs_size (bytes s)).1
    have h2 := le_sum_mem ((txs (toksOf (bytes s))).map List.length) (toksOf (bytes s))[k].2.length (List.mem_map.2 ⟨_, List.mem_map.2 ⟨_, List.getElem_mem h, rfl⟩, rfl⟩)
    have h4 := HSZ.out
    rw [bytes_len] at h1
    omega)
  clear ho1 htk
  rw [hk]
  generalize toksOf (bytes s) = tk at *
  clear hk HSZ
  go_wp2_with fail
  go_loopg [8, 9] tk.length (fun g l i wr => ∃ k : Nat, k + g = tk.length ∧ i = .int .i64 k ∧ l = .string (str (joinG ((txs tk).take k) (gapsN gs))) ∧ Below w1.heap.size w1 wr)
  case atStart => exact ⟨0, by omega, rfl, by rw [List.take_zero]; rfl, Below.refl _ _⟩
  case round =>
    obtain ⟨k, hk, rfl, rfl, hb⟩ := hrel
    have hsz := hb.size
    have hmx : tk.length ≤ 9223372036854775807 := by obtain ⟨_, _, _, hm, _⟩ := HT.out; simp only [maxLen] at hm; omega
    by_cases hlt : k < tk.length
    · have htx : k < (txs tk).length := by unfold txs; rw [List.length_map]; exact hlt
      obtain ⟨ga, oa, eA, hga, -, c1⟩ := slc_tok HT.out rfl hlt
      have ST := Lib.hid (joinG_step (gapsN gs) htx)
      have etx : (txs tk)[k] = tk[k].2 := by simp [txs]
      have hj1 : (str (joinG ((txs tk).take k) (gapsN gs))).size ≤ 26000 := by rw [str_size]; exact HJ.out k
      have hj2 : (str tk[k].2).size ≤ 2000 := by rw [str_size]; exact HX.out k hlt
      rw [etx] at ST
      have hlk : (k : Int) < (tk.length : Int) := by omega
      generalize tk[k] = z at c1 ST hj2
      unfold strV at c1
      have c1' : wr.cell? ⟨ga, oa + k * 2 + 1, none⟩ = some (.string (str z.2)) := (hb.cell (p := ⟨ga, oa + k * 2 + 1, none⟩) hga).trans c1
      have c1o : ∀ o, (wr.alloc o).cell? ⟨ga, oa + k * 2 + 1, none⟩ = some (.string (str z.2)) := fun o => (World.cell?_alloc_lt wr o ⟨ga, oa + k * 2 + 1, none⟩ (by show ga < _; omega)).trans c1'
      subst eA
      clear htx etx c1
      generalize hjq : joinG ((txs tk).take k) (gapsN gs) = jn at *
      clear hjq
      have hn1 : ¬ (9223372036854775807 < (str jn).size + (str z.2).size) := by omega
      have hn2 : ¬ (9223372036854775807 < (str jn).size + (str z.2).size + 1) := by omega
      have hn3 : ¬ (9223372036854775807 < (str jn).size + (str z.2).size + 12) := by omega
      by_cases hgl : k < len
      · have hgl2 : k < gs.length := by rw [← HL.out]; exact hgl
        obtain ⟨gb, ob, eB, hgb, c2⟩ := slc_int HG.out HL.out hgl2
        obtain ⟨b1, b2⟩ := HB.out _ (List.getElem_mem hgl2)
        have GA := Lib.hid (gapsN_at hgl2)
        generalize gs[k] = g at c2 b1 b2 GA
        have hw1 : w.heap.size ≤ wr.heap.size := Nat.le_trans HB1.out.size hsz
        have c2' : wr.cell? ⟨gb, ob + k, none⟩ = some (.int .u8 g) := (hb.cell (p := ⟨gb, ob + k, none⟩) (by have := HB1.out.size; show gb < _; omega)).trans ((HB1.out.cell (p := ⟨gb, ob + k, none⟩) hgb).trans c2)
        have c3 : ∀ o, (wr.alloc o).cell? ⟨gb, ob + k, none⟩ = some (.int .u8 g) := fun o => (World.cell?_alloc_lt wr o ⟨gb, ob + k, none⟩ (by show gb < _; omega)).trans c2'
        have hlk2 : (k : Int) < (len : Int) := by omega
        subst eB
        clear c2 hgl2
        rw [GA.out] at ST
        have hg4 : g % 4 = 0 ∨ g % 4 = 1 ∨ g % 4 = 2 ∨ g % 4 = 3 := by omega
        rcases hg4 with hg | hg | hg | hg
        all_goals
          rw [hg] at ST
          go_wp2_with fail
          go_region_law (fail)
          all_goals
            go_wp2_with fail
            go_roundg (tk.length - (k + 1))
            case measure => omega
            case rel => exact ⟨k + 1, by omega, by go_num, by rw [ST.out]; exact congrArg Value.string (gap_str2 jn z.2 _ _ rfl), (hb.alloc hsz _).drew⟩
      · have hlk2 : ¬ (k : Int) < (len : Int) := by omega
        have GA := Lib.hid (gapsN_out (gs := gs) (k := k) (by rw [← HL.out]; omega))
        rw [GA.out] at ST
        go_wp2_with fail
        go_region_law (fail)
        all_goals
          go_wp2_with fail
          go_roundg (tk.length - (k + 1))
          case measure => omega
          case rel => exact ⟨k + 1, by omega, by go_num, by rw [ST.out]; exact congrArg Value.string (gap_str2 jn z.2 _ _ rfl), (hb.alloc hsz _).drew⟩
    · have hlk : ¬ (k : Int) < (tk.length : Int) := by omega
      rw [List.take_of_length_le (by unfold txs; rw [List.length_map]; omega)] at *
      have HBW : Hid (Below w.heap.size w wr) := Lib.hid (HB1.out.trans (hb.mono HB1.out.size))
      clear hb
      generalize joinG (txs tk) (gapsN gs) = jn at *
      go_wp2_with fail
      refine (HP.out s wr HBW.out).mono ?_
      rintro e w3 ⟨hb3, r, hpr, rfl, hat, -, -⟩
      have HB3 := Lib.hid hb3
      have HPR := Lib.hid hpr
      have HA3 := Lib.hid (hat [] w3 (fun _ h => by cases h) (Fr.refl _ _))
      clear hb3 hat hpr
      go_upto_region 15 with (refine wpList_storeRow rfl 41 _ _ rfl rfl (ds := r.C) rfl (HasC.new _ _ _) rfl Tryz.sizeRt HA3.out.one ?_; intro w4 hz1 hz2)
      have HB4 := Lib.hid (new_below hz2)
      have X4 := Lib.hid hz1
      have HBV : Hid (Below w.heap.size w w4) := Lib.hid (HBW.out.trans ((HB3.out.trans (HB4.out.mono HB3.out.size)).mono HBW.out.size))
      clear hz1 hz2
      go_wp2_with fail
      refine (HP.out (str jn) w4 HBV.out).mono ?_
      rintro e w5 ⟨hb5, x, hpx, he5, hat2, -, -⟩
      rw [bytes_str] at hpx he5
      have e1 : (parseB E jn).2.1 = (parseB E (bytes s)).2.1 := congrArg Prod.fst HN.out
      have HPX : Hid (r.plain = x.plain) := Lib.hid (by rw [HPR.out, hpx, HN.out])
      rw [e1] at he5
      subst he5
      have HB5 := Lib.hid hb5
      have HA5 := Lib.hid (hat2 [] w5 (fun _ h => by cases h) (Fr.refl _ _))
      clear hb5 hat2 hpx e1
      go_upto_region 16 with (refine wpList_storeRow rfl 41 _ _ rfl rfl (ds := x.C) rfl (HasC.new _ _ _) rfl Tryz.sizeRt HA5.out.one ?_; intro w6 hz1 hz2)
      have HB6 := Lib.hid (new_below hz2)
      have X6 := Lib.hid hz1
      have HB46 : Hid (Below w4.heap.size w4 w6) := Lib.hid (HB5.out.trans (HB6.out.mono HB5.out.size))
      have HB36 : Hid (Below w3.heap.size w3 w6) := Lib.hid (HB4.out.trans (HB46.out.mono HB4.out.size))
      have HBr6 : Hid (Below wr.heap.size wr w6) := Lib.hid (HB3.out.trans (HB36.out.mono HB3.out.size))
      have X5 := Lib.hid (X4.out.keep HB46.out)
      have HAR := Lib.hid ((HA3.out.below HB36.out).lift HB36.out.size)
      have HAX := Lib.hid ((HA5.out.below HB6.out).lift HB6.out.size)
      have HSM := Lib.hid (same_any r x w6 w6.heap.size HAR.out HAX.out (Nat.le_refl _) HPX.out)
      have HB06 : Hid (Below w.heap.size w w6) := Lib.hid (HBW.out.trans (HBr6.out.mono HBW.out.size))
      clear hz1 hz2
      generalize (parseB E (bytes s)).2.1 = ee at *
      go_wp2_with (first | (refine wpList_unguard (by rfl) (wpList_loadRow rfl 41 _ rfl rfl X5.out.range Tryz.rowRt Tryz.sizeRt ?_)) | (refine wpList_unguard (by rfl) (wpList_loadRow rfl 41 _ rfl rfl X6.out.range Tryz.rowRt Tryz.sizeRt ?_)))
      refine HSM.out.mono ?_
      rintro e w7 ⟨rfl, hb7⟩
      have HB7 : Hid (Below w.heap.size w w7) := Lib.hid (HB06.out.trans (hb7.mono HB06.out.size))
      clear hb7
      go_wp2_with fail
      refine (HSN.out w7 HB7.out).mono ?_
      rintro e w8 ⟨rfl, hb8⟩
      have HB8 := Lib.hid hb8
      clear hb8
      go_wp2_with fail
      go_ret
      exact ⟨rfl, HB7.out.trans (HB8.out.mono HB7.out.size)⟩
end Go.Proofs.YtmddfkpkddemnaaGreatDoor
