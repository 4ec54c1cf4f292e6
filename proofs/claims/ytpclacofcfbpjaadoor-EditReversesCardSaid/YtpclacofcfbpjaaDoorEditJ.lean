/- The walks of split and printable, the program's and the reference's. Condition: at most 10^9 texts. -/
import Derived.Test.YtpclacofcfbpjaaDoorEditI
namespace Go.Proofs.YtpclacofcfbpjaaDoor
open Go.RowKit

theorem own_below {w w' : World} {base : Nat} {e : TypeId} {size n : Nat} {v : Value} {xs : List Value} (h : w.ownsRow base e size v n xs) (hb : Below w.heap.size w w') : w'.ownsRow base e size v n xs :=
  h.kept (row := none) ⟨hb.os, hb.tape, hb.output, hb.size, fun k hk _ => hb.block k hk⟩ (by cases hv : v.ownBlock <;> simp)
/-- append(v, x): one element, just laid into a block of its own; what lies in other blocks than the row's stands. -/
theorem wpList_append1g {P : Program} {ops : Array Oper} {rest : List Oper} {o : Oper} {a : Act} {Q : Exit → Act → World → Prop} (w : World) (hgd : o.guard = none) (s x : Operand) (t : TypeId)
    (ho : o.op = .call { callee := .builtin .append, args := #[s, x], argTypes := #[t, t] })
    (base : Nat) (e : TypeId) (i : TypeInfo) (z : Value) (size bts : Nat) (ht : P.underlying t = some (.slice e)) (hi : P.info? e = some i) (hz : i.zero = some z)
    (hsize : i.size = size) (hby : i.bytes = bts) (hzs : z.cells.size = size) (hsz : 0 < size)
    (v : Value) (n : Nat) (xs : List Value) (hs : a.eval s = v) (hown : w.ownsRow base e size v n xs)
    (cs : Array Value) (hx : a.eval x = .slice (some ⟨w.heap.size, 0, none⟩) 1 1) (hl : cs.size = size) (h1 : ∀ u ∈ cs.toList, u.oneCell' = true)
    (hbytes : (n + 1) * bts ≤ 140737488355328) (hpos : 1 ≤ bts) (hbase : base ≤ w.heap.size)
    (h : ∀ v' w', w'.ownsRow base e size v' (n + 1) (xs ++ cs.toList) → Below base w w' → w.grownBy w' v.ownBlock → (v'.ownBlock = v.ownBlock ∨ v'.ownBlock = some (w.heap.size + 1)) → wpList P ops Q rest (a.put o.dst v') w') :
    wpList P ops Q (o :: rest) a (w.alloc (.cells cs e)) := by
  refine wpList_append_own_at _ hgd s x t ho base e i z size bts ht hi hz hsize hby hzs hsz v n xs hs (hown.alloc _) ⟨w.heap.size, 0, none⟩ 1 1 cs.toList hx (by simp [hl]) ?_ h1 ?_ hbytes (by simp; omega) ?_
  · intro j u hu
    rw [cell_new_at]
    simpa using hu
  · have := Nat.le_mul_of_pos_right (n + 1) hpos
    simp only [maxLen]; omega
  · intro v' w' hown' hg _ hat
    refine h v' w' hown' ?_ ?_ (by simpa using hat)
    · refine ((Below.refl base w).alloc hbase _).grown hg (by simp; omega) ?_
      intro k hk
      exact (hown.lt k hk).1
    · exact ⟨hg.os, hg.tape, hg.output, Nat.le_trans (by simp) hg.size, fun k hk hne => (hg.block k (by simp; omega) hne).trans (Below.heap_alloc w _ k hk)⟩

/-- A slice of strings in another block than 'row'. -/
def SlN (w : World) (row : Option Nat) (u : Value) (ls : List (List UInt8)) : Prop :=
  ∃ A c, u = .slice A ls.length c ∧ ls.length ≤ c ∧ ls.length ≤ maxLen ∧ (A = none → c = 0) ∧ (0 < ls.length → ∃ g o, A = some ⟨g, o, none⟩ ∧ g < w.heap.size ∧ row ≠ some g ∧ ∀ (j : Nat) t, ls[j]? = some t → w.cell? ⟨g, o + j, none⟩ = some (strV t))
theorem SlN.sl {w : World} {row : Option Nat} {u : Value} {ls : List (List UInt8)} (h : SlN w row u ls) : Sl w w.heap.size u ls := by
  obtain ⟨A, c, rfl, h1, h2, h3, h4⟩ := h
  refine ⟨A, c, rfl, h1, A, c, rfl, h2, by simp, h3, fun h0 => ?_⟩
  obtain ⟨g, o, rfl, hg, _, hc⟩ := h4 h0
  refine ⟨g, o, rfl, hg, fun j u hu => ?_⟩
  rw [List.getElem?_map] at hu
  cases hq : ls[j]? with
  | none => rw [hq] at hu; cases hu
  | some t => rw [hq] at hu; injection hu with hu; subst hu; exact hc j t hq
theorem SlN.grown {w w' : World} {row row' : Option Nat} {u : Value} {ls : List (List UInt8)} (h : SlN w row u ls) (hg : w.grownBy w' row) (hr : row' = row ∨ ∃ k, w.heap.size ≤ k ∧ row' = some k) : SlN w' row' u ls := by
  obtain ⟨A, c, rfl, h1, h2, h3, h4⟩ := h
  refine ⟨A, c, rfl, h1, h2, h3, fun h0 => ?_⟩
  obtain ⟨g, o, rfl, hgl, hne, hc⟩ := h4 h0
  refine ⟨g, o, rfl, Nat.lt_of_lt_of_le hgl hg.size, ?_, fun j t ht => hg.cell (hc j t ht) (fun e => hne e.symm)⟩
  rcases hr with rfl | ⟨k, hk, rfl⟩
  · exact hne
  · intro e; injection e with e; omega
theorem SlN.below {w w' : World} {row : Option Nat} {u : Value} {ls : List (List UInt8)} (h : SlN w row u ls) (hb : Below w.heap.size w w') : SlN w' row u ls := by
  obtain ⟨A, c, rfl, h1, h2, h3, h4⟩ := h
  refine ⟨A, c, rfl, h1, h2, h3, fun h0 => ?_⟩
  obtain ⟨g, o, rfl, hgl, hne, hc⟩ := h4 h0
  exact ⟨g, o, rfl, Nat.lt_of_lt_of_le hgl hb.size, hne, fun j t ht => (hb.cell (p := ⟨g, o + j, none⟩) hgl).trans (hc j t ht)⟩
theorem SlN.of_own {w : World} {base : Nat} {row : Option Nat} {v : Value} {ls : List (List UInt8)} (h : w.ownsRow base 9 1 v ls.length (ls.map strV)) (hr : ∀ k, row = some k → k < base) : SlN w row v ls := by
  obtain ⟨A, c, e1, h0, _, hA, h2⟩ := Slc.of_own h
  rcases h.2 with ⟨rfl, h0⟩ | ⟨g, cap, cur, rfl, hb, _, hn, _⟩
  · exact ⟨none, 0, by rw [h0], by omega, by simp [h0], fun _ => rfl, fun h => by omega⟩
  · refine ⟨_, cap, rfl, hn, h0, fun h => (by cases h), fun h3 => ?_⟩
    injection e1 with e1 e2 e3
    subst e1
    obtain ⟨g', o', e2, hg, hc⟩ := h2 h3
    injection e2 with e2
    injection e2 with e3 e4
    subst e3 e4
    refine ⟨g, 0, rfl, hg, fun e => ?_, fun j t ht => hc j _ (by rw [List.getElem?_map, ht]; rfl)⟩
    have := hr g e
    omega

theorem Tryd.rowInfo : (Tryd.prog.info? 22).map (fun i => (i.zero, i.size, i.bytes)) = some (some (.slice none 0 0), 1, 24) := by kernel_rfl
def splitRes (ts : List (List UInt8)) : List (List (List UInt8)) := if splitErr ts = 0 then splitOf ts else []
def SplitPost (ts : List (List UInt8)) (w : World) (e : Ending) (w' : World) : Prop :=
  ∃ v, e = .returned (.tuple #[v, .int .i64 (splitErr ts)]) ∧ LL w' w'.heap.size v (splitRes ts) ∧ Below w.heap.size w w'
theorem splitErr_on {ts : List (List UInt8)} {k : Nat} (h : k < ts.length) (he : linesErr ts[k] = 0) : splitErr (ts.drop k) = splitErr (ts.drop (k + 1)) := by
  rw [list_step ts k h, splitErr, if_pos he]
theorem splitErr_bad {ts : List (List UInt8)} {k : Nat} (h : k < ts.length) (he : ¬ linesErr ts[k] = 0) : splitErr (ts.drop k) = linesErr ts[k] := by
  rw [list_step ts k h, splitErr, if_neg he]
theorem split_bad {ts : List (List UInt8)} {n : Int} (h : splitErr ts = n) (hn : ¬ n = 0) {w w' : World} (hb : Below w.heap.size w w') : SplitPost ts w (.returned (.tuple #[.slice none 0 0, .int .i64 n])) w' := by
  refine ⟨_, by rw [h], ?_, hb⟩
  unfold splitRes
  rw [h, if_neg hn]
  exact ⟨none, 0, [], rfl, rfl, Slc.nil, fun i u ls h => by simp at h⟩
theorem split_ok {ts : List (List UInt8)} {w w' : World} {v : Value} {us : List Value} {k : Nat} {row : Option Nat} (h : splitErr ts = 0) (hk : k = ts.length) (hu : us.length = k) (hs : Slc w' w'.heap.size 1 v k us)
    (hU : ∀ (i : Nat) u t, us[i]? = some u → ts[i]? = some t → SlN w' row u (linesOf t)) (hb : Below w.heap.size w w') : SplitPost ts w (.returned (.tuple #[v, .int .i64 0])) w' := by
  obtain ⟨A1, c1, rfl⟩ := slc_form hs
  refine ⟨_, by rw [h], ?_, hb⟩
  have hsr : splitRes ts = ts.map linesOf := by unfold splitRes; rw [h, if_pos rfl]; rfl
  rw [hsr]
  refine ⟨A1, c1, us, by rw [List.length_map, hk], by rw [List.length_map, hu, hk], by rw [List.length_map, ← hk]; exact hs, fun i u ls hi ht => ?_⟩
  rw [List.getElem?_map] at ht
  cases hq : ts[i]? with
  | none => rw [hq] at ht; cases ht
  | some t =>
    rw [hq] at ht
    injection ht with ht
    subst ht
    exact (hU i u t hi hq).sl
theorem one_slc (A : Option Addr) (n c : Nat) : ∀ u ∈ (#[Value.slice A n c] : Array Value).toList, u.oneCell' = true := by
  intro u hu; simp at hu; subst hu; rfl

set_option maxHeartbeats 1000000 in
theorem split_any (v0 : Value) (ts : List (List UInt8)) (w : World) (hs : Sl w w.heap.size v0 ts) (hl : ts.length ≤ 1000000000) :
    Calls Tryd.prog 27 #[v0] w (SplitPost ts w) := by
  obtain ⟨A, c, rfl, hc, hb1, hS⟩ := hs.form
  obtain ⟨i0, hi0, hz0, hz1, hz2⟩ := info_parts Tryd.rowInfo
  have Hi0 := Lib.hid hi0
  have Hz0 := Lib.hid hz0
  have Hz1 := Lib.hid hz1
  have Hz2 := Lib.hid hz2
  have HS := Lib.hid hS
  clear hi0 hz0 hz1 hz2 hs hS
  go_enter Tryd.func27, Tryd.ntmps27
  go_wp2
  go_loopw [2, 3, 4, 6, 7, 8, 11] (fun _ _ v _ _ _ ix wr => ∃ (k : Nat) (us : List Value), k ≤ ts.length ∧ us.length = k ∧ ix = .int .i64 k ∧ wr.ownsRow w.heap.size 22 1 v k us ∧
      Hid (∀ (i : Nat) u t, us[i]? = some u → ts[i]? = some t → SlN wr v.ownBlock u (linesOf t)) ∧ Below w.heap.size w wr ∧ Hid (splitErr ts = splitErr (ts.drop k))) (fun _ _ _ _ _ _ ix _ => ts.length - (intOf ix).toNat)
  case atStart => exact ⟨0, [], by omega, rfl, rfl, World.ownsRow_nil _ _ _ _, Lib.hid (fun i u t h => by simp at h), Below.refl _ _, Lib.hid (by rw [List.drop_zero])⟩
  case round =>
    obtain ⟨k, us, hk, hu, rfl, hown, HU, hb, H⟩ := hrel
    have hsz := hb.size
    by_cases hlt : k < ts.length
    · obtain ⟨g, o, eA, hg, c1⟩ := slc_at (HS.out.below hb) rfl hlt
      have E := Lib.hid (fun h => splitErr_on (ts := ts) hlt h)
      have EB := Lib.hid (fun h => splitErr_bad (ts := ts) hlt h)
      have HT := Lib.hid (List.getElem?_eq_getElem hlt)
      generalize ts[k] = x at c1 E EB HT
      unfold strV at c1
      subst eA
      have HUL := Lib.hid hu
      clear hu
      go_wp2_with fail
      refine (lines_any _ _).mono ?_
      rintro e w1 ⟨v1, rfl, ho1, hb2⟩
      rw [bytes_str] at ho1 ⊢
      have hbb : Below w.heap.size w w1 := hb.trans (hb2.mono hsz)
      clear c1
      cases he : (linesErr x != 0) with
      | true =>
        have hne : ¬ linesErr x = 0 := by simpa using he
        have HE : Hid (splitErr ts = linesErr x) := Lib.hid (by rw [H.out, EB.out hne])
        have HNE := Lib.hid hne
        clear H E EB hne
        go_wp2_with fail
        go_ret2
        exact split_bad HE.out HNE.out hbb
      | false =>
        have h0 : linesErr x = 0 := by simpa using he
        have HE : Hid (splitErr ts = splitErr (ts.drop (k + 1))) := Lib.hid (by rw [H.out, E.out h0])
        have hlr : linesRes x = linesOf x := by unfold linesRes; rw [if_pos h0]
        rw [hlr] at ho1
        have HO1 := Lib.hid ho1
        obtain ⟨A1, c1, e1⟩ := slc_form (Slc.of_own ho1)
        subst e1
        have hown1 := own_below hown hb2
        have hsz2 := hb2.size
        have hrow : ∀ q, u4.ownBlock = some q → q < wr.heap.size := fun q hq => (hown.lt q hq).2
        have HRW := Lib.hid hrow
        clear H E EB h0 hlr ho1 hown hrow
        go_wp2_with (first | (at_builtin; refine wpList_append1g _ rfl _ _ 51 rfl w.heap.size 22 i0 _ 1 24 Tryd.underlying51 Hi0.out Hz0.out Hz1.out Hz2.out rfl (by decide) _ k us rfl hown1 #[.slice A1 (linesOf x).length c1] rfl rfl (one_slc _ _ _) (by omega) (by decide) (by omega) ?_; intro v1 w2 hown2 hb3 hgr hat))
        go_roundw
        case rel => exact ⟨k + 1, us ++ [.slice A1 (linesOf x).length c1], by omega, by rw [List.length_append, HUL.out]; rfl, by go_num, by simpa using hown2, Lib.hid (fun i u t hi ht => by
            rcases Nat.lt_or_ge i k with h | h
            · rw [List.getElem?_append_left (by rw [HUL.out]; exact h)] at hi
              exact ((HU.out i u t hi ht).below hb2).grown hgr (hat.imp id (fun h => ⟨_, Nat.le_succ _, h⟩))
            · have hik : i = k := by
                rcases Nat.lt_or_ge k i with h' | h'
                · rw [List.getElem?_eq_none (by rw [List.length_append, HUL.out]; simp; omega)] at hi; cases hi
                · omega
              subst hik
              rw [List.getElem?_append_right (by rw [HUL.out]; exact Nat.le_refl _), HUL.out, Nat.sub_self] at hi
              injection hi with hi
              subst hi
              rw [HT.out] at ht
              injection ht with ht
              subst ht
              exact (SlN.of_own HO1.out HRW.out).grown hgr (hat.imp id (fun h => ⟨_, Nat.le_succ _, h⟩))), hbb.trans hb3, HE⟩
        case measure => simp [intOf]; omega
    · have HE : Hid (splitErr ts = 0) := Lib.hid (by rw [H.out, List.drop_eq_nil_of_le (by omega)]; rfl)
      have hkl : k = ts.length := by omega
      have HK := Lib.hid hkl
      clear hkl
      have HSL := Lib.hid (Slc.of_own hown)
      have HUL := Lib.hid hu
      clear hu
      go_wp2_with fail
      go_ret2
      exact split_ok HE.out HK.out HUL.out HSL.out HU.out hb

theorem print_step (s : ByteArray) (k : Nat) (h : k < s.size) : printB ((bytes s).drop k) = (printC s[k].toNat && printB ((bytes s).drop (k + 1))) := by
  rw [drop_step s k h]; rfl
theorem print_no {c : Int} (h : printC c = false) : (c != 9) = true ∧ (c < 32 ∨ 126 < c) := by
  simp only [printC, Bool.or_eq_false_iff, Bool.and_eq_false_iff, decide_eq_false_iff_not] at h
  exact ⟨by simp [bne, h.1], by omega⟩
theorem print_yes {c : Int} (h : printC c = true) : (c != 9) = false ∨ ((c != 9) = true ∧ 32 ≤ c ∧ c ≤ 126) := by
  simp only [printC, Bool.or_eq_true, Bool.and_eq_true, decide_eq_true_eq] at h
  by_cases h9 : c = 9
  · exact .inl (by simp [h9])
  · refine .inr ⟨by simp [h9], ?_⟩
    simp [h9] at h; exact h

set_option maxHeartbeats 400000 in
theorem printable_any (s : ByteArray) (w : World) (hs : s.size ≤ 1000000000) : Calls Tryd.prog 39 #[.string s] w fun e w' => e = .returned (.bool (printB (bytes s))) ∧ w = w' := by
  go_enter Tryd.func39, Tryd.ntmps39
  go_wp2_with fail
  go_loop [2, 3, 6] (fun _ _ i => ∃ k : Nat, k ≤ s.size ∧ i = .int .i64 k ∧ Hid (printB (bytes s) = printB ((bytes s).drop k))) (fun _ _ i => s.size - (intOf i).toNat)
  case atStart => exact ⟨0, by omega, rfl, Lib.hid (by rw [List.drop_zero])⟩
  case round =>
    obtain ⟨k, hk, rfl, H⟩ := hrel
    by_cases hlt : k < s.size
    · have E := Lib.hid (print_step s k hlt)
      cases hp : printC s[k].toNat with
      | false =>
        obtain ⟨h1, h2⟩ := print_no hp
        rcases h2 with h2 | h2
        · have d1 : decide ((s[k].toNat : Int) < 32) = true := decide_eq_true h2
          go_wp2_with fail
          go_ret
          exact ⟨ret_bool (by rw [H.out, E.out, hp]; rfl), rfl⟩
        · have d1 : decide ((s[k].toNat : Int) < 32) = false := decide_eq_false (by omega)
          have d2 : decide ((126 : Int) < s[k].toNat) = true := decide_eq_true h2
          go_wp2_with fail
          go_ret
          exact ⟨ret_bool (by rw [H.out, E.out, hp]; rfl), rfl⟩
      | true =>
        rcases print_yes hp with h1 | ⟨h1, h2, h3⟩
        · go_wp2_with fail
          go_round
          case rel => exact ⟨k + 1, by omega, by go_num, Lib.hid (by rw [H.out, E.out, hp]; rfl)⟩
          case measure => simp [intOf]; omega
        · have d1 : decide ((s[k].toNat : Int) < 32) = false := decide_eq_false (by omega)
          have d2 : decide ((126 : Int) < s[k].toNat) = false := decide_eq_false (by omega)
          go_wp2_with fail
          go_round
          case rel => exact ⟨k + 1, by omega, by go_num, Lib.hid (by rw [H.out, E.out, hp]; rfl)⟩
          case measure => simp [intOf]; omega
    · go_wp2_with fail
      go_ret
      exact ⟨ret_bool (by rw [H.out, drop_end s k hlt]; rfl), rfl⟩

set_option maxHeartbeats 400000 in
theorem rprintable_any (s : ByteArray) (w : World) (hs : s.size ≤ 1000000000) : Calls Tryd.prog 43 #[.string s] w fun e w' => e = .returned (.bool (printB (bytes s))) ∧ w = w' := by
  go_enter Tryd.func43, Tryd.ntmps43
  go_wp2_with fail
  go_loop [2, 3] (fun _ i => ∃ k : Nat, k ≤ s.size ∧ i = .int .i64 k ∧ Hid (printB (bytes s) = printB ((bytes s).drop k))) (fun _ i => s.size - (intOf i).toNat)
  case atStart => exact ⟨0, by omega, rfl, Lib.hid (by rw [List.drop_zero])⟩
  case round =>
    obtain ⟨k, hk, rfl, H⟩ := hrel
    by_cases hlt : k < s.size
    · have E := Lib.hid (print_step s k hlt)
      cases hp : printC s[k].toNat with
      | false =>
        obtain ⟨h1, h2⟩ := print_no hp
        rcases h2 with h2 | h2
        · have d1 : decide ((s[k].toNat : Int) < 32) = true := decide_eq_true h2
          go_wp2_with fail
          go_ret
          exact ⟨ret_bool (by rw [H.out, E.out, hp]; rfl), rfl⟩
        · have d1 : decide ((s[k].toNat : Int) < 32) = false := decide_eq_false (by omega)
          have d2 : decide ((126 : Int) < s[k].toNat) = true := decide_eq_true h2
          go_wp2_with fail
          go_ret
          exact ⟨ret_bool (by rw [H.out, E.out, hp]; rfl), rfl⟩
      | true =>
        rcases print_yes hp with h1 | ⟨h1, h2, h3⟩
        · go_wp2_with fail
          go_round
          case rel => exact ⟨k + 1, by omega, by go_num, Lib.hid (by rw [H.out, E.out, hp]; rfl)⟩
          case measure => simp [intOf]; omega
        · have d1 : decide ((s[k].toNat : Int) < 32) = false := decide_eq_false (by omega)
          have d2 : decide ((126 : Int) < s[k].toNat) = false := decide_eq_false (by omega)
          go_wp2_with fail
          go_round
          case rel => exact ⟨k + 1, by omega, by go_num, Lib.hid (by rw [H.out, E.out, hp]; rfl)⟩
          case measure => simp [intOf]; omega
    · go_wp2_with fail
      go_ret
      exact ⟨ret_bool (by rw [H.out, drop_end s k hlt]; rfl), rfl⟩

end Go.Proofs.YtpclacofcfbpjaaDoor
