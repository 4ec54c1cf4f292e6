/- The law QueryManyLines. Condition: Go's own tables and the words lie below the world's blocks (EnvB). -/
import Derived.Test.YtnhemjdmleilcaaDoorQryMa
import Derived.Test.YtnhemjdmleilcaaDoorQryLa
import Derived.Test.YtnhemjdmleilcaaDoorQryZ
import Derived.Test.YtnhemjdmleilcaaDoorArgs
namespace Go.Proofs.YtnhemjdmleilcaaDoor
open Go.RowKit

/-- An argument that is a slice of queries. -/
def QsArg (w : World) (A : Option Addr) (len cap : Nat) (qs : List Qr) : Prop := Slc w w.heap.size 20 (.slice A len cap) len (QCs qs) ∧ len = qs.length ∧ ∀ q ∈ qs, q.fit
theorem slc_int {w : World} {B : Nat} {A : Option Addr} {n c : Nat} {xs : List Int} {K : IntKind} (h : Slc w B 1 (.slice A n c) n (xs.map (Value.int K))) (hn : n = xs.length) {k : Nat} (hk : k < xs.length) :
    ∃ g o, A = some ⟨g, o, none⟩ ∧ g < B ∧ w.cell? ⟨g, o + k, none⟩ = some (.int K xs[k]) := by
  obtain ⟨A', c', e, _, _, _, h⟩ := h
  injection e with e1 e2 e3
  subst e1
  obtain ⟨g, o, rfl, hg, hc⟩ := h (by omega)
  exact ⟨g, o, rfl, hg, hc k _ (by simp [hk])⟩
/-- A load of a query out of a row of queries. -/
theorem wpList_loadM {ops : Array Oper} {rest : List Oper} {o : Oper} {a : Act} {w : World} {Q : Exit → Act → World → Prop} (hgd : o.guard = none) (x : Operand) (ho : o.op = .load 30 x)
    {g f : Nat} {q : Qr} (hx : a.eval x = .pointer (some ⟨g, f, none⟩)) (hq : w.rangeAt g f (QC q).toList) (h : wpList Tryd.prog ops Q rest (a.put o.dst (QV q)) w) : wpList Tryd.prog ops Q (o :: rest) a w := by
  obtain ⟨d, hu, hd⟩ := row_of Tryd.rowQ
  refine wpList_load_mid hgd 30 x ho g f hx (QC q).toList d hq hu hd Tryd.sizeQ ?_
  simpa [QV_eq] using h
theorem zip_take {qs : List Qr} {gs : List Int} {k : Nat} (h1 : k < qs.length) (h2 : k < gs.length) : (qs.zip gs).take (k + 1) = (qs.zip gs).take k ++ [(qs[k], gs[k])] := by
  rw [List.take_succ_eq_append_getElem (by rw [List.length_zip]; omega), List.getElem_zip]
def ninthK (ps : List (Qr × Int)) (k : Nat) : Nat := if 8 < k then (rowsQ (ps.take 9)).length else 0
theorem ninthK_eq {ps : List (Qr × Int)} {k : Nat} (h : k ≠ 8) : ninthK ps (k + 1) = ninthK ps k := by
  unfold ninthK
  by_cases h1 : 8 < k
  · rw [if_pos h1, if_pos (by omega)]
  · rw [if_neg h1, if_neg (by omega)]
theorem ninthK_8 {ps : List (Qr × Int)} : ninthK ps 9 = (rowsQ (ps.take 9)).length := rfl
theorem gap_cases (g : Int) : g % 3 = 0 ∨ g % 3 = 1 ∨ g % 3 = 2 := by omega
theorem zip_len {qs : List Qr} {gs : List Int} (h : qs.length ≤ gs.length) : (qs.zip gs).length = qs.length := by rw [List.length_zip]; omega
theorem zip_fst {qs : List Qr} {gs : List Int} (h : qs.length ≤ gs.length) : (qs.zip gs).map Prod.fst = qs := List.map_fst_zip h
theorem rows_take (ps : List (Qr × Int)) (k : Nat) (hk : k ≤ 12) : (rowsQ (ps.take k)).length ≤ 24 := by
  have := rows_len13 (ps.take k)
  rw [List.length_take] at this
  omega
theorem text_take (ps : List (Qr × Int)) (k : Nat) (hk : k ≤ 12) : (textQ (ps.take k)).length ≤ 9840 := by
  have := text_len (ps.take k)
  rw [List.length_take] at this
  omega
set_option maxRecDepth 100000 in
set_option maxHeartbeats 8000000 in
theorem queryManyLines_walk (A : Option Addr) (len cap : Nat) (qs : List Qr) (B : Option Addr) (len2 cap2 : Nat) (gs : List Int) (w : World) (he : EnvB w.heap.size w) (hS : QsArg w A len cap qs) (_ : len ≤ cap) (hG : BytesArg w B len2 cap2 gs) (_ : len2 ≤ cap2) :
    Calls Tryd.prog 8 #[.slice A len cap, .slice B len2 cap2] w fun e w' => e = .returned (.bool true) ∧ Below w.heap.size w w' := by
  have HA := Lib.hid (awake_any w he)
  have HE := Lib.hid he
  obtain ⟨hs, hlen, hfit⟩ := hS
  obtain ⟨hg, hlen2, hgb⟩ := hG
  have HS := Lib.hid hs
  have HL := Lib.hid hlen
  have HF := Lib.hid hfit
  have HG := Lib.hid hg
  have HL2 := Lib.hid hlen2
  have HB := Lib.hid hgb
  clear hs hlen hg hlen2 hgb hfit he
  go_enter Tryd.func8, Tryd.ntmps8
  go_wp2_with fail
  refine HA.out.mono ?_
  rintro e w1 ⟨rfl, hb⟩
  have B1 := Lib.hid hb
  clear hb HA
  by_cases h0 : 12 < len
  · go_wp2_with fail
    go_ret
    exact ⟨rfl, B1.out⟩
  have d0 : decide ((12 : Int) < len) = false := by simp; omega
  by_cases h1 : len2 < len
  · go_wp2_with fail
    go_ret
    exact ⟨rfl, B1.out⟩
  have d1 : decide (len2 < len) = false := by simp; omega
  have HZ : Hid (qs.length ≤ gs.length) := Lib.hid (by rw [← HL.out, ← HL2.out]; omega)
  go_wp2_with fail
  clear d0 d1
  go_loopg [5, 6, 7, 8] len (fun gh sv ln nn ix wr => ∃ k : Nat, k + gh = len ∧ ix = .int .i64 k ∧ sv = .string (str (textQ ((qs.zip gs).take k))) ∧ ln = .int .i64 (((rowsQ ((qs.zip gs).take k)).length : Nat) : Int) ∧ nn = .int .i64 ((ninthK (qs.zip gs) k : Nat) : Int) ∧ Hid (okQs ((qs.zip gs).take k)) ∧ Hid (Below w.heap.size w wr))
  case atStart => exact ⟨0, by omega, rfl, by rfl, by rfl, by rfl, Lib.hid (fun x hx => by cases hx), B1⟩
  case round =>
    obtain ⟨k, hk, rfl, rfl, rfl, rfl, HO, BW⟩ := hrel
    clear B1
    by_cases hlt : k < len
    case pos =>
      have hql : k < qs.length := by rw [← HL.out]; exact hlt
      have hgl : k < gs.length := by rw [← HL2.out]; omega
      obtain ⟨ga, oa, eA, hga, r1⟩ := slcQ HS.out HL.out hql
      obtain ⟨gb, ob, eB, hgb, c2⟩ := slc_int HG.out HL2.out hgl
      have T1 := Lib.hid (zip_take hql hgl)
      have hf := Lib.hid (HF.out _ (List.getElem_mem hql))
      obtain ⟨b1, b2⟩ := HB.out _ (List.getElem_mem hgl)
      have R1 := Lib.hid (fun w' (hb : Below w.heap.size w w') => rangeBelow r1 hb hga)
      have C1 := Lib.hid (fun w' (hb : Below w.heap.size w w') => (hb.cell (p := ⟨gb, ob + k, none⟩) hgb).trans c2)
      subst eA eB
      clear r1 c2
      generalize qs[k] = x at T1 hf R1
      generalize gs[k] = g at T1 b1 b2 C1
      clear hql hgl
      have r0 := Lib.hid (R1.out _ BW.out)
      go_wp2_with (first | (refine wpList_loadM rfl _ rfl rfl r0.out ?_))
      refine (long_any x _).mono ?_
      rintro e w2 ⟨rfl, hb⟩
      have B2 := Lib.hid (BW.out.trans (hb.mono BW.out.size))
      clear hb BW r0
      have r0 := Lib.hid (R1.out _ B2.out)
      cases hL : longB x with
      | true =>
        go_wp2_with fail
        go_ret
        exact ⟨rfl, B2.out⟩
      | false =>
      clear hL
      go_wp2_with (first | (refine wpList_unguard (by rfl) (wpList_loadM rfl _ rfl rfl r0.out ?_)))
      refine (rqvalid_any x _ hf.out).mono ?_
      rintro e w3 ⟨rfl, hb⟩
      have B3 := Lib.hid (B2.out.trans (hb.mono B2.out.size))
      clear hb B2 r0
      by_cases hv : validE x = 0
      case neg =>
        have hn : (validE x != 0) = true := by simpa using hv
        clear hv
        go_wp2_with fail
        go_ret
        exact ⟨rfl, B3.out⟩
      have HN : Hid (okQs ((qs.zip gs).take (k + 1))) := Lib.hid (by rw [T1.out]; exact okQs_snoc HO.out hv hf.out)
      have TX : Hid (textQ ((qs.zip gs).take (k + 1)) = textQ ((qs.zip gs).take k) ++ (textR (gapR g) ++ (fmtQ x ++ [10]))) := Lib.hid (by rw [T1.out, textQ_snoc])
      have TL : Hid ((rowsQ ((qs.zip gs).take (k + 1))).length = (rowsQ ((qs.zip gs).take k)).length + ((gapR g).length + 1)) := Lib.hid (by rw [T1.out, rowsLen_snoc])
      have N1 : Hid (k = 8 → (rowsQ ((qs.zip gs).take (k + 1))).length = ninthK (qs.zip gs) (k + 1)) := Lib.hid (by rintro rfl; exact ninthK_8.symm)
      have N2 : Hid (k ≠ 8 → ninthK (qs.zip gs) (k + 1) = ninthK (qs.zip gs) k) := Lib.hid (fun h => ninthK_eq h)
      have l1 := text_take (qs.zip gs) k (by omega)
      have l2 := rows_take (qs.zip gs) k (by omega)
      have HV := Lib.hid hv
      rw [hv]
      clear hv HO T1
      generalize textQ ((qs.zip gs).take k) = T at TX l1 ⊢
      generalize (rowsQ ((qs.zip gs).take k)).length = L at TL l2 ⊢
      generalize ninthK (qs.zip gs) k = nk at N2 ⊢
      have c0 := C1.out _ B3.out
      go_upto_if 51 with fail
      go_cut [5, 6] from 27 to 82 (fun sv ln wx => sv = .string (str (cat T (textR (gapR g)))) ∧ ln = .int .i64 ((L + (gapR g).length : Nat) : Int) ∧ Hid (Below w.heap.size w wx))
      case first =>
        have BA := Lib.hid (fun o => B3.out.alloc B3.out.size o)
        have c3 : ∀ o, (w3.alloc o).cell? ⟨gb, ob + k, none⟩ = some (.int .u8 g) := fun o => C1.out _ (BA.out o)
        rcases gap_cases g with hg | hg | hg
        · have E1 : Hid (cat T (textR (gapR g)) = T) := Lib.hid (by unfold gapR; rw [if_pos hg]; simp [cat, textR])
          have E2 : Hid ((gapR g).length = 0) := Lib.hid (by unfold gapR; rw [if_pos hg]; rfl)
          go_wp2_with fail
          go_meet
          exact ⟨by rw [E1.out], by rw [E2.out]; rfl, B3⟩
        · have E1 : Hid (textR (gapR g) = [10]) := Lib.hid (by unfold gapR; rw [if_neg (by omega), if_pos hg]; rfl)
          have E2 : Hid ((gapR g).length = 1) := Lib.hid (by unfold gapR; rw [if_neg (by omega), if_pos hg]; rfl)
          have q1 : Op.stringOp .add (str T) ⟨#[10]⟩ = pure (.string (str (cat T [10]))) := run_cat (m := [10]) (by simp; omega)
          go_wp2_with fail
          go_meet
          exact ⟨by rw [E1.out], by rw [E2.out]; go_num, Lib.hid (BA.out _)⟩
        · have E1 : Hid (textR (gapR g) = cmtL ++ [10]) := Lib.hid (by unfold gapR; rw [if_neg (by omega), if_neg (by omega)]; rfl)
          have E2 : Hid ((gapR g).length = 1) := Lib.hid (by unfold gapR; rw [if_neg (by omega), if_neg (by omega)]; rfl)
          have q1 : Op.stringOp .add (str T) ⟨#[32, 35, 32, 97, 32, 99, 111, 109, 109, 101, 110, 116, 10]⟩ = pure (.string (str (cat T (cmtL ++ [10])))) := run_cat (m := cmtL ++ [10]) (by simp [cmtL]; omega)
          go_wp2_with fail
          go_meet
          exact ⟨by rw [E1.out], by rw [E2.out]; go_num, Lib.hid (BA.out _)⟩
      case rest =>
      obtain ⟨rfl, rfl, B4⟩ := hcut
      clear c0 B3
      have gl := gap_len g
      have fl := fmtQ_len x
      have q1 : Op.stringOp .add (str (cat T (textR (gapR g)))) (str (fmtQ x)) = pure (.string (str (cat (cat T (textR (gapR g))) (fmtQ x)))) := run_cat (by rw [cat_len]; omega)
      have q2 : Op.stringOp .add (str (cat (cat T (textR (gapR g))) (fmtQ x))) ⟨#[10]⟩ = pure (.string (str (cat (cat (cat T (textR (gapR g))) (fmtQ x)) [10]))) := run_cat (m := [10]) (by rw [cat_len, cat_len]; simp; omega)
      have ET : Hid (textQ ((qs.zip gs).take (k + 1)) = cat (cat (cat T (textR (gapR g))) (fmtQ x)) [10]) := Lib.hid (by rw [TX.out]; simp [cat])
      have gl2 := gl.2
      clear TX gl fl
      generalize (gapR g).length = gn at *
      have r0 := Lib.hid (R1.out _ B4.out)
      go_wp2_with (first | (refine wpList_loadM rfl _ rfl rfl r0.out ?_))
      refine (qformat_any x _ hf.out (HE.out.up B4.out)).mono ?_
      rintro e w5 ⟨rfl, hb⟩
      have B5 := Lib.hid (B4.out.trans (hb.mono B4.out.size))
      unfold strV
      rw [HV.out]
      clear hb B4 r0
      by_cases h8 : k = 8
      · have d8 : ((k : Int) == 8) = true := by rw [h8]; rfl
        have EN := Lib.hid (N1.out h8)
        go_wp2_with fail
        go_roundg (len - (k + 1))
        case measure => omega
        case rel => exact ⟨k + 1, by omega, by go_num, by rw [ET.out], by rw [TL.out]; go_num, by rw [← EN.out, TL.out]; go_num, HN, B5⟩
      · have d8 : ((k : Int) == 8) = false := by simp; omega
        have EN := Lib.hid (N2.out h8)
        go_wp2_with fail
        go_roundg (len - (k + 1))
        case measure => omega
        case rel => exact ⟨k + 1, by omega, by go_num, by rw [ET.out], by rw [TL.out]; go_num, by rw [EN.out], HN, B5⟩
    case neg =>
      obtain rfl : k = len := by omega
      have hzl := zip_len HZ.out
      have ek : (qs.zip gs).take k = qs.zip gs := List.take_of_length_le (by rw [hzl, ← HL.out]; exact Nat.le_refl _)
      rw [ek] at HO ⊢
      have HT := Lib.hid (all_text HO.out (by rw [hzl, ← HL.out]; omega))
      have EF := Lib.hid (zip_fst HZ.out)
      have l2 := rows_take (qs.zip gs) k (by omega)
      rw [ek] at l2
      have l9 := rows_take (qs.zip gs) 9 (by omega)
      have P9 : Hid (8 < k → 0 < (rowsQ ((qs.zip gs).take 9)).length) := Lib.hid (fun h => rows_pos (by rw [hzl, ← HL.out]; exact h))
      clear ek
      by_cases h8 : 8 < k
      · have EA : Hid (allR (textQ (qs.zip gs)) = ([], (rowsQ ((qs.zip gs).take 9)).length, 7)) := Lib.hid (by rw [HT.out, if_neg (by rw [hzl, ← HL.out]; omega)])
        have EN : ninthK (qs.zip gs) k = (rowsQ ((qs.zip gs).take 9)).length := if_pos h8
        rw [EN]
        have p9 := P9.out h8
        clear HT EN P9 hzl
        generalize (rowsQ ((qs.zip gs).take 9)).length = n9 at *
        go_wp2_with fail
        refine (qall_any _ _ (HE.out.up BW.out)).mono ?_
        rintro e w5 ⟨v5, rfl, ho, hb⟩
        rw [bytes_str, EA.out] at ho ⊢
        obtain ⟨A5, c5, rfl, -⟩ := own_cap ho
        have B5 := Lib.hid (BW.out.trans (hb.mono BW.out.size))
        clear ho hb
        go_wp2_with fail
        go_ret
        exact ⟨rfl, B5.out⟩
      · have EA : Hid (allR (textQ (qs.zip gs)) = (qs, (rowsQ (qs.zip gs)).length, 0)) := Lib.hid (by rw [HT.out, if_pos (by rw [hzl, ← HL.out]; omega), EF.out])
        have EN : ninthK (qs.zip gs) k = 0 := if_neg h8
        rw [EN]
        clear HT EN P9 hzl
        generalize (rowsQ (qs.zip gs)).length = n9 at *
        go_wp2_with fail
        refine (qall_any _ _ (HE.out.up BW.out)).mono ?_
        rintro e w5 ⟨v5, rfl, ho, hb⟩
        rw [bytes_str, EA.out] at ho ⊢
        obtain ⟨A5, c5, rfl, -⟩ := own_cap ho
        have B5 := Lib.hid (BW.out.trans (hb.mono BW.out.size))
        have L1 := Lib.hid (Slc.of_own ho)
        have hkq := HL.out
        clear ho hb
        dsimp only at L1 ⊢
        rw [← HL.out] at L1 ⊢
        go_wp2_with fail
        go_loopg [14] k (fun gh ix wr => ∃ (j : Nat), j + gh = k ∧ ix = .int .i64 j ∧ Hid (Below w5.heap.size w5 wr))
        case atStart => exact ⟨0, by omega, rfl, Lib.hid (Below.refl _ _)⟩
        case round =>
          obtain ⟨j, hj, rfl, HW⟩ := hrel
          by_cases hlt : j < k
          case neg =>
            go_wp2_with fail
            go_ret
            exact ⟨rfl, B5.out.trans (HW.out.mono B5.out.size)⟩
          obtain ⟨g1, o1, rfl, hg1, hr1⟩ := slcQ L1.out HL.out (by rw [← HL.out]; exact hlt : j < qs.length)
          obtain ⟨g2, o2, rfl, hg2, hr2⟩ := slcQ HS.out HL.out (by rw [← HL.out]; exact hlt : j < qs.length)
          have BD := HW.out.trans ((belowDrew wr).mono HW.out.size)
          have S1 : Hid (wr.drew.rangeAt g1 (o1 + j * 20) (QC (qs[j]'(by rw [← HL.out]; exact hlt))).toList ∧ wr.drew.rangeAt g2 (o2 + j * 20) (QC (qs[j]'(by rw [← HL.out]; exact hlt))).toList) := Lib.hid ⟨rangeBelow hr1 BD hg1, rangeBelow hr2 (B5.out.trans (BD.mono B5.out.size)) hg2⟩
          have BD2 := Lib.hid BD
          clear hr1 hr2 BD
          generalize qs[j]'(by rw [← HL.out]; exact hlt) = x at S1
          go_wp2_with fail
          refine wp_region_held_drew (S := fun w' => w'.rangeAt g1 (o1 + j * 20) (QC x).toList ∧ w'.rangeAt g2 (o2 + j * 20) (QC x).toList) (by kernel_rfl) S1.out (fun hHeld => ?_)
          refine wpAnyH_take (i := 0) (oi := { dst := some 123, op := Op.move (Operand.tmp 11), type := 46, pos := "law.go:168", after := #[], guard := none }) (v := ?_) rfl (by kernel_rfl) (by kernel_rfl) (by kernel_rfl) (fun _ _ _ h => h) (Or.inl ⟨by rfl, ?_⟩) (by assumption) ?_
          rotate_left
          · (intro w hSw; (try dsimp only at hSw); go_simp; try with_reducible rfl)
          try simp only [Act.put, List.setIfInBounds_toArray, List.set_cons_zero, List.set_cons_succ]
          refine wpAnyH_take (i := 1) (oi := { dst := some 124, op := Op.move (Operand.tmp 14), type := 3, pos := "law.go:168", after := #[], guard := none }) (v := ?_) rfl (by kernel_rfl) (by kernel_rfl) (by kernel_rfl) (fun _ _ _ h => h) (Or.inl ⟨by rfl, ?_⟩) (by assumption) ?_
          rotate_left
          · (intro w hSw; (try dsimp only at hSw); go_simp; try with_reducible rfl)
          try simp only [Act.put, List.setIfInBounds_toArray, List.set_cons_zero, List.set_cons_succ]
          refine wpAnyH_take (i := 2) (oi := { dst := some 125, op := Op.indexAddr 46 (Operand.tmp 123) (Operand.tmp 124), type := 0, pos := "law.go:168", after := #[{ on := 0, ground := Ground.data }, { on := 1, ground := Ground.data }], guard := none }) (v := ?_) rfl (by kernel_rfl) (by kernel_rfl) (by kernel_rfl) (fun _ _ _ h => h) (Or.inl ⟨by rfl, ?_⟩) (by assumption) ?_
          rotate_left
          · (intro w hSw; (try dsimp only at hSw); go_simp; try with_reducible rfl)
          try simp only [Act.put, List.setIfInBounds_toArray, List.set_cons_zero, List.set_cons_succ]
          refine wpAnyH_take (i := 3) (oi := { dst := some 126, op := Op.load 30 (Operand.tmp 125), type := 30, pos := "law.go:168", after := #[{ on := 2, ground := Ground.data }], guard := none }) (v := QV x) rfl (by kernel_rfl) (by kernel_rfl) (by kernel_rfl) (fun _ _ _ h => h) (yieldsM (by rfl) _ rfl rfl (fun _ h => h.1)) (by assumption) ?_
          try simp only [Act.put, List.setIfInBounds_toArray, List.set_cons_zero, List.set_cons_succ]
          refine wpAnyH_take (i := 4) (oi := { dst := some 127, op := Op.move (Operand.tmp 0), type := 46, pos := "law.go:168", after := #[], guard := none }) (v := ?_) rfl (by kernel_rfl) (by kernel_rfl) (by kernel_rfl) (fun _ _ _ h => h) (Or.inl ⟨by rfl, ?_⟩) (by assumption) ?_
          rotate_left
          · (intro w hSw; (try dsimp only at hSw); go_simp; try with_reducible rfl)
          try simp only [Act.put, List.setIfInBounds_toArray, List.set_cons_zero, List.set_cons_succ]
          refine wpAnyH_take (i := 5) (oi := { dst := some 128, op := Op.move (Operand.tmp 14), type := 3, pos := "law.go:168", after := #[], guard := none }) (v := ?_) rfl (by kernel_rfl) (by kernel_rfl) (by kernel_rfl) (fun _ _ _ h => h) (Or.inl ⟨by rfl, ?_⟩) (by assumption) ?_
          rotate_left
          · (intro w hSw; (try dsimp only at hSw); go_simp; try with_reducible rfl)
          try simp only [Act.put, List.setIfInBounds_toArray, List.set_cons_zero, List.set_cons_succ]
          refine wpAnyH_take (i := 6) (oi := { dst := some 129, op := Op.indexAddr 46 (Operand.tmp 127) (Operand.tmp 128), type := 0, pos := "law.go:168", after := #[{ on := 4, ground := Ground.data }, { on := 5, ground := Ground.data }], guard := none }) (v := ?_) rfl (by kernel_rfl) (by kernel_rfl) (by kernel_rfl) (fun _ _ _ h => h) (Or.inl ⟨by rfl, ?_⟩) (by assumption) ?_
          rotate_left
          · (intro w hSw; (try dsimp only at hSw); go_simp; try with_reducible rfl)
          try simp only [Act.put, List.setIfInBounds_toArray, List.set_cons_zero, List.set_cons_succ]
          refine wpAnyH_take (i := 7) (oi := { dst := some 130, op := Op.load 30 (Operand.tmp 129), type := 30, pos := "law.go:168", after := #[{ on := 6, ground := Ground.data }], guard := none }) (v := QV x) rfl (by kernel_rfl) (by kernel_rfl) (by kernel_rfl) (fun _ _ _ h => h) (yieldsM (by rfl) _ rfl rfl (fun _ h => h.2)) (by assumption) ?_
          try simp only [Act.put, List.setIfInBounds_toArray, List.set_cons_zero, List.set_cons_succ]
          refine wpAnyH_take (i := 8) (oi := { dst := some 131, op := Op.binOp BinOp.neq 30 (Operand.tmp 126) (Operand.tmp 130) 30, type := 4, pos := "law.go:168", after := #[{ on := 3, ground := Ground.data }, { on := 7, ground := Ground.data }], guard := none }) (v := .bool false) rfl (by kernel_rfl) (by kernel_rfl) (by kernel_rfl) (fun _ _ _ h => h) (yieldsNeq (by rfl) _ _ rfl rfl rfl) (by assumption) ?_
          try simp only [Act.put, List.setIfInBounds_toArray, List.set_cons_zero, List.set_cons_succ]
          refine wpAnyH_done (by kernel_rfl) ?_ _
          clear hHeld
          go_wp2_with fail
          go_roundg (k - (j + 1))
          case measure => omega
          case rel => exact ⟨j + 1, by omega, by go_num, BD2⟩
end Go.Proofs.YtnhemjdmleilcaaDoor
