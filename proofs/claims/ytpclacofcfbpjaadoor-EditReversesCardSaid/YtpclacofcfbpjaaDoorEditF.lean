/- The walk of edit.Flip. Conditions: the cell of MaxLen holds an integer; no line is longer than 10^9 bytes. -/
import Derived.Test.YtpclacofcfbpjaaDoorEditB
import Derived.Deep.RegionHeld3
namespace Go.Proofs.YtpclacofcfbpjaaDoor
open Go.RowKit

theorem below_drew (w : World) : Below w.heap.size w w.drew := ⟨rfl, rfl, rfl, Nat.le_refl _, fun _ _ => rfl⟩
theorem keepB {z : Nat} {w0 w w' : World} (h : z ≤ w.heap.size ∧ Below z w0 w) (hb : Below w.heap.size w w') : z ≤ w'.heap.size ∧ Below z w0 w' := ⟨Nat.le_trans h.1 hb.size, h.2.trans (hb.mono h.1)⟩
def MaxCell (w : World) : Prop := ∃ m, w.cell? ⟨0, 0, none⟩ = some (.int .i64 m)
theorem MaxCell.below {w w' : World} (h : MaxCell w) (hb : Below w.heap.size w w') : MaxCell w' := by
  obtain ⟨m, h⟩ := h
  exact ⟨m, (hb.cell (World.block_lt_of_cell? _ _ h)).trans h⟩
theorem index_any (s x : ByteArray) (w : World) (hs : s.size ≤ 1000000000) (h : MaxCell w) : Calls Tryd.prog 20 #[.string s, .string x] w fun e w' => e = .returned (.int .i64 (Lib.index (bytes s) (bytes x))) ∧ w = w' := by
  obtain ⟨m, h⟩ := h
  refine (Tryd.strings_Index s x m w (by omega) h).mono ?_
  rintro e w' ⟨rfl, rfl⟩
  exact ⟨rfl, rfl⟩
theorem trim_any (s : ByteArray) (w : World) (hs : s.size ≤ 1000000000) : Calls Tryd.prog 21 #[.string s, .string ⟨#[59]⟩] w fun e w' => e = .returned (.string (str (bareOf (bytes s)))) ∧ w = w' := by
  refine (Tryd.strings_TrimRight_one s 59 (by decide) w (by omega)).mono ?_
  rintro e w' ⟨rfl, rfl⟩
  exact ⟨rfl, rfl⟩
theorem action_yes (l : List UInt8) (w : World) (h : actB l = true) : Calls Tryd.prog 22 #[.string (str l)] w fun e w' => e = .returned (.bool true) ∧ w = w' := by
  refine (action_any _ w).mono ?_
  rintro e w' ⟨rfl, rfl⟩
  exact ⟨ret_bool (by rw [bytes_str, h]), rfl⟩
theorem action_no (l : List UInt8) (w : World) (h : actB l = false) : Calls Tryd.prog 22 #[.string (str l)] w fun e w' => e = .returned (.bool false) ∧ w = w' := by
  refine (action_any _ w).mono ?_
  rintro e w' ⟨rfl, rfl⟩
  exact ⟨ret_bool (by rw [bytes_str, h]), rfl⟩
theorem slc_take {w : World} {B n c m : Nat} {A : Option Addr} {xs : List Value} (h : Slc w B 1 (.slice A n c) n xs) (hm : m ≤ n) : Slc w B 1 (.slice A m c) m (xs.take m) := by
  obtain ⟨A', c', e, h1, h2, h3, h4⟩ := h
  injection e with e1 e2 e3
  subst e1 e3
  refine ⟨A, c, rfl, by omega, by simp; omega, h3, fun h0 => ?_⟩
  obtain ⟨g, o, rfl, hg, hc⟩ := h4 (by omega)
  refine ⟨g, o, rfl, hg, fun j u hu => hc j u ?_⟩
  rw [List.getElem?_take] at hu
  split at hu
  · exact hu
  · cases hu
theorem opp_len (ls : List (List UInt8)) (x : List UInt8) : (oppOf ls x).length ≤ 7 := by
  have hr : ∀ l, (refusalGo l).length ≤ 7 := by
    intro l
    induction l with
    | nil => simp [refusalGo, wReject]
    | cons a r ih =>
      simp only [refusalGo]
      split
      · exact ih
      · split
        · simp [wDiscard]
        · split
          · simp [wReject]
          · exact ih
  unfold oppOf
  split
  · simp [wDeny]
  · split
    · simp [wPermit]
    · split
      · exact hr _
      · simp [wAccept]

/-- What Flip returns. -/
def flipV (o : Option (List UInt8)) : Value := .tuple #[.string (str (o.getD [])), .bool o.isSome]
def FlipPost (o : Option (List UInt8)) (w : World) (e : Ending) (w' : World) : Prop := e = .returned (flipV o) ∧ Below w.heap.size w w'
theorem flip_none {o : Option (List UInt8)} (h : o = none) {w w' : World} (hb : Below w.heap.size w w') : FlipPost o w (.returned (.tuple #[.string ⟨#[]⟩, .bool false])) w' := by
  subst h; exact ⟨rfl, hb⟩
theorem flip_some {o : Option (List UInt8)} {s : ByteArray} (h : o = some (bytes s)) {w w' : World} (hb : Below w.heap.size w w') : FlipPost o w (.returned (.tuple #[.string s, .bool true])) w' := by
  subst h; exact ⟨rfl, hb⟩
theorem flipI_neg {ls : List (List UInt8)} {k : Int} (h : k < 0) : flipI ls k = none := by unfold flipI; rw [if_pos h]
theorem flipI_big {ls : List (List UInt8)} {k : Int} (h0 : ¬ k < 0) (h : ¬ k.toNat < ls.length) : flipI ls k = none := by
  unfold flipI flipOf; rw [if_neg h0, List.getElem?_eq_none (by omega)]
theorem flipI_at {ls : List (List UInt8)} {k : Nat} (h : k < ls.length) : flipI ls k = flipLine ls k ls[k] (actsOf ls[k]) := by
  unfold flipI flipOf; rw [if_neg (by omega)]; simp [h]
theorem flipLine_no {ls : List (List UInt8)} {k : Nat} {s : List UInt8} {l : List (Nat × List UInt8)} (h : ((l.length : Int) != 1) = true) : flipLine ls k s l = none := by
  match l, h with
  | [], _ => rfl
  | [x], h => simp at h
  | _ :: _ :: _, _ => rfl
theorem ext_from (s : ByteArray) (a : Nat) : bytes (s.extract a s.size) = (bytes s).drop a := by
  rw [ext_eq, bytes_str, sub, List.take_of_length_le (by rw [List.length_drop, bytes_len]; omega)]
theorem bytes_app (a b : ByteArray) : bytes (a ++ b) = bytes a ++ bytes b := by simp [bytes, ByteArray.data_append]
theorem ext_to (s : ByteArray) (a : Nat) : bytes (s.extract 0 a) = (bytes s).take a := by
  rw [ext_eq, bytes_str, sub, List.drop_zero, Nat.sub_zero]

theorem fieldsGo_len (cm : Int) : ∀ (l : List UInt8) (o : Option (List UInt8)), (fieldsGo cm o l).length ≤ l.length + 1 := by
  intro l
  induction l with
  | nil => intro o; cases o <;> simp [fieldsGo]
  | cons b r ih =>
    intro o
    cases o with
    | none =>
      simp only [fieldsGo]
      split
      · have := ih none; simp; omega
      · split
        · simp
        · have := ih (some [b]); simp; omega
    | some x =>
      simp only [fieldsGo]
      split
      · have := ih none; simp; omega
      · have := ih (some (x ++ [b])); simp; omega

set_option maxRecDepth 100000 in
set_option maxHeartbeats 2000000 in
theorem flip_any (A : Option Addr) (n c : Nat) (ls : List (List UInt8)) (k : Int) (w : World) (hs : Slc w w.heap.size 1 (.slice A n c) n (ls.map strV)) (hn : n = ls.length) (hl : ∀ l ∈ ls, l.length ≤ 1000000000) (hM : MaxCell w) (hc : n ≤ c) :
    Calls Tryd.prog 9 #[.slice A n c, .int .i64 k] w (FlipPost (flipI ls k) w) := by
  have hb1 := slc_len hs
  have HS := Lib.hid hs
  have HN := Lib.hid hn
  have HL := Lib.hid hl
  have HM := Lib.hid hM
  clear hs hn hl hM
  by_cases h0 : k < 0
  · have HF := Lib.hid (flipI_neg (ls := ls) h0)
    go_enter Tryd.func9, Tryd.ntmps9
    go_wp2_with fail
    go_ret2
    exact flip_none HF.out (Below.refl _ _)
  have d0 : decide (k < 0) = false := by simp; omega
  by_cases h1 : k.toNat < ls.length
  case neg =>
    have HF := Lib.hid (flipI_big (ls := ls) h0 h1)
    have h2 : (n : Int) ≤ k := by rw [HN.out]; omega
    clear h1
    go_enter Tryd.func9, Tryd.ntmps9
    go_wp2_with fail
    go_ret2
    exact flip_none HF.out (Below.refl _ _)
  obtain ⟨j, rfl⟩ : ∃ j : Nat, k = j := ⟨k.toNat, by omega⟩
  have hj : j < ls.length := h1
  have hjn : j < n := by rw [HN.out]; exact hj
  clear h1 h0
  have HF := Lib.hid (flipI_at hj)
  obtain ⟨g, o, eA, hg, c1⟩ := slc_at HS.out HN.out hj
  have hx : (ls[j]).length ≤ 1000000000 := HL.out _ (List.getElem_mem hj)
  generalize ls[j] = x at HF c1 hx
  unfold strV at c1
  subst eA
  obtain ⟨s, rfl⟩ : ∃ s : ByteArray, bytes s = x := ⟨str x, bytes_str x⟩
  rw [str_bytes] at c1
  rw [bytes_len] at hx
  go_enter Tryd.func9, Tryd.ntmps9
  go_wp2_with fail
  refine (fields_any _ _ _ hx).mono ?_
  rintro e w1 ⟨v1, rfl, ho1, hb⟩
  have hfs := Lib.hid (fields_starts s.size (bytes s) 0 (by rw [bytes_len]; exact Nat.le_refl _))
  have hfl : (fieldsOf 0 (bytes s)).length ≤ 1000000001 := by have := fieldsGo_len 0 (bytes s) none; rw [bytes_len] at this; unfold fieldsOf; omega
  have H0 : Hid (actsOf (bytes s) = [] ++ (startsGo 0 true ((bytes s).drop 0)).filterMap pickAct) := Lib.hid (by rw [List.drop_zero]; rfl)
  have F0 : Hid ((fieldsOf 0 (bytes s)).drop 0 = (startsGo 0 true ((bytes s).drop 0)).map Prod.snd) := Lib.hid (by rw [List.drop_zero, List.drop_zero]; exact hfs.out)
  clear hfs
  have hS1 := Lib.hid (Slc.of_own ho1)
  have HM1 := Lib.hid (HM.out.below hb)
  clear ho1 HM c1
  generalize fieldsOf 0 (bytes s) = fs at hS1 hfl F0
  obtain ⟨A1, cc, rfl⟩ := slc_form hS1.out
  go_wp2_with fail
  go_loop [7, 8, 9, 10, 12, 13, 14, 30] (fun st ct wd en _ _ _ ix => ∃ (i : Nat) (dn : List (Nat × List UInt8)) (a b : Nat) (x : List UInt8), i ≤ fs.length ∧ dn.length ≤ i ∧ a ≤ 1000000000 ∧ b ≤ s.size ∧
      st = .int .i64 a ∧ ct = .int .i64 dn.length ∧ wd = .string (str x) ∧ en = .int .i64 b ∧ ix = .int .i64 i ∧ Hid (dn.length = 1 → dn = [(a, x)] ∧ a + x.length ≤ s.size) ∧
      Hid (actsOf (bytes s) = dn ++ (startsGo b true ((bytes s).drop b)).filterMap pickAct) ∧ Hid (fs.drop i = (startsGo b true ((bytes s).drop b)).map Prod.snd)) (fun _ _ _ _ _ _ _ ix => fs.length - (intOf ix).toNat)
  case atStart => exact ⟨0, [], 0, 0, [], by omega, by simp, by omega, by omega, rfl, rfl, rfl, rfl, rfl, Lib.hid (fun h => by cases h), H0, F0⟩
  case round =>
    clear H0 F0
    obtain ⟨i, dn, a, b, x, hi, hdn, ha, hbs, rfl, rfl, rfl, rfl, rfl, HD, HA, HX⟩ := hrel
    by_cases hlt : i < fs.length
    · obtain ⟨g1, o1, eA1, _, c1⟩ := slc_at hS1.out rfl hlt
      have E := Lib.hid (list_step fs i hlt)
      obtain ⟨p, f, rest, hst⟩ : ∃ p f rest, startsGo b true ((bytes s).drop b) = (p, f) :: rest := by
        have h := HX.out
        rw [E.out] at h
        cases hq : startsGo b true ((bytes s).drop b) with
        | nil => rw [hq] at h; cases h
        | cons y r => exact ⟨y.1, y.2, r, rfl⟩
      have hfe : fs[i] = f := by
        have h := HX.out
        rw [E.out, hst] at h
        injection h
      have HX2 : Hid (fs.drop (i + 1) = rest.map Prod.snd) := Lib.hid (by
        have h := HX.out
        rw [E.out, hst] at h
        injection h)
      rw [hfe] at c1
      obtain ⟨n1, n2, n3, n4, n5, n6, n7⟩ := starts_next _ _ _ _ _ hst
      obtain ⟨q, rfl⟩ : ∃ q, p = b + q := ⟨p - b, by omega⟩
      rw [show b + q - b = q from by omega] at n1 n3 n5 n7
      obtain ⟨t, rfl⟩ : ∃ t : ByteArray, bytes t = f := ⟨str f, bytes_str f⟩
      rw [List.length_drop, bytes_len, bytes_len] at n3
      rw [bytes_len, List.drop_drop] at n5
      have hts : t.size ≤ 1000000000 := by omega
      have HI : Hid (Lib.index (bytes (s.extract b s.size)) (bytes t) = (q : Int)) := Lib.hid (by rw [ext_from]; exact n1)
      have HA2 : Hid (actsOf (bytes s) = dn ++ (pickAct (b + q, bytes t)).toList ++ (startsGo (b + q + t.size) true ((bytes s).drop (b + q + t.size))).filterMap pickAct) := Lib.hid (by
        rw [HA.out, hst, n5, List.filterMap_cons, show b + (q + t.size) = b + q + t.size from by omega]
        cases pickAct (b + q, bytes t) <;> simp)
      have HX3 : Hid (fs.drop (i + 1) = (startsGo (b + q + t.size) true ((bytes s).drop (b + q + t.size))).map Prod.snd) := Lib.hid (by rw [HX2.out, n5, show b + (q + t.size) = b + q + t.size from by omega])
      clear HX HX2 HA E hst hfe n1 n2 n5 n6 n7 n4
      unfold strV at c1
      rw [str_bytes] at c1
      subst eA1
      have hxs : (s.extract b s.size).size ≤ 1000000000 := by simp; omega
      have hbl := bare_len (bytes t)
      rw [bytes_len] at hbl
      cases hact : actB (bareOf (bytes t)) with
      | true =>
        have HP : Hid (pickAct (b + q, bytes t) = some (b + q, bareOf (bytes t))) := Lib.hid (by rw [pickAct, if_pos hact])
        have HC := Lib.hid hact
        clear hact
        go_wp2_with fail
        refine (index_any _ _ _ hxs HM1.out).mono ?_
        rw [HI.out]
        rintro e w' ⟨rfl, rfl⟩
        go_wp2_with fail
        refine (trim_any _ _ hts).mono ?_
        rintro e w' ⟨rfl, rfl⟩
        go_wp2_with fail
        refine (action_yes _ _ HC.out).mono ?_
        rintro e w' ⟨rfl, rfl⟩
        go_wp2_with fail
        go_round
        case rel => exact ⟨i + 1, dn ++ [(b + q, bareOf (bytes t))], b + q, b + q + t.size, bareOf (bytes t), by omega, by simp; omega, by omega, by omega, by go_num, by simp, rfl, by go_num, by go_num, Lib.hid (fun h => by
            have h0 : dn = [] := List.eq_nil_of_length_eq_zero (by simpa using h)
            rw [h0]; exact ⟨rfl, by omega⟩), Lib.hid (by rw [HA2.out, HP.out]; rfl), HX3⟩
        case measure => simp [intOf]; omega
      | false =>
        have HP : Hid (pickAct (b + q, bytes t) = none) := Lib.hid (by rw [pickAct, if_neg (by simp [hact])])
        have HC := Lib.hid hact
        clear hact
        go_wp2_with fail
        refine (index_any _ _ _ hxs HM1.out).mono ?_
        rw [HI.out]
        rintro e w' ⟨rfl, rfl⟩
        go_wp2_with fail
        refine (trim_any _ _ hts).mono ?_
        rintro e w' ⟨rfl, rfl⟩
        go_wp2_with fail
        refine (action_no _ _ HC.out).mono ?_
        rintro e w' ⟨rfl, rfl⟩
        go_wp2_with fail
        go_round
        case rel => exact ⟨i + 1, dn, a, b + q + t.size, x, by omega, by omega, by omega, by omega, rfl, rfl, rfl, by go_num, by go_num, HD, Lib.hid (by rw [HA2.out, HP.out]; simp), HX3⟩
        case measure => simp [intOf]; omega
    · have hdone : actsOf (bytes s) = dn := by
        have h := HX.out
        rw [List.drop_eq_nil_of_le (by omega)] at h
        rw [HA.out, List.eq_nil_of_length_eq_zero (by simpa using (congrArg List.length h).symm : (startsGo b true ((bytes s).drop b)).length = 0)]
        simp
      have HF2 : Hid (flipI ls j = flipLine ls j (bytes s) dn) := Lib.hid (by rw [HF.out, hdone])
      clear hdone HA HX HF
      cases hc1 : ((dn.length : Int) != 1) with
      | true =>
        have HF3 : Hid (flipI ls j = none) := Lib.hid (by rw [HF2.out]; exact flipLine_no hc1)
        go_wp2_with fail
        go_ret2
        exact flip_none HF3.out hb
      | false =>
        obtain ⟨hd, hax⟩ := HD.out (by have : (dn.length : Int) = 1 := by simpa using hc1
                                       omega)
        have HF3 : Hid (flipI ls j = some ((bytes s).take a ++ oppOf (ls.take (j + 1)) x ++ (bytes s).drop (a + x.length))) := Lib.hid (by rw [HF2.out, hd]; rfl)
        clear hd HF2 HD
        have HO : Hid (∀ w', w.heap.size ≤ w'.heap.size ∧ Below w.heap.size w w' → Calls Tryd.prog 23 #[.slice (some ⟨g, o, none⟩) (j + 1) c, .string (str x)] w' fun e w'' => e = .returned (.string (str (oppOf (ls.take (j + 1)) x))) ∧ Below w'.heap.size w' w'') := Lib.hid (fun w' hw => by
          have h1 := ((slc_take HS.out (show j + 1 ≤ n by omega)).below hw.2).mono hw.1
          rw [← List.map_take] at h1
          have h2 := opposite_any _ _ _ (ls.take (j + 1)) (str x) w' h1 (by rw [List.length_take]; omega) (fun l hl => HL.out l (List.mem_of_mem_take hl))
          rw [bytes_str] at h2
          exact h2)
        have hop := opp_len (ls.take (j + 1)) x
        rw [← str_size] at hop
        have SB : w.heap.size ≤ w1.heap.size ∧ Below w.heap.size w w1 := ⟨hb.size, hb⟩
        have hxs := str_size x
        generalize hY : str x = y at *
        obtain rfl : x = bytes y := by rw [← hY, bytes_str]
        clear hY hxs
        rw [bytes_len] at hax
        generalize hZ : str (oppOf (ls.take (j + 1)) (bytes y)) = z at *
        have hz2 : oppOf (ls.take (j + 1)) (bytes y) = bytes z := by rw [← hZ, bytes_str]
        rw [hz2, bytes_len] at HF3
        clear hZ hz2 HS HL HN hS1 HM1 hdn hfl
        have b1 : (a : Int) ≤ s.size := by omega
        have b2 : (j : Int) + 1 ≤ c := by omega
        have b3 : (a : Int) + y.size ≤ s.size := by omega
        go_wp2_with fail
        clear hc1 hlt hi hjn hj
        have b4 : (0 : Int) ≤ (j : Int) + 1 := by omega
        have b5 : (0 : Int) ≤ (a : Int) + y.size := by omega
        have b6 : (0 : Int) ≤ (a : Int) := by omega
        have W1 : IntKind.i64.wrap ((j : Int) + 1) = (j : Int) + 1 := by simp [IntKind.wrap, IntKind.signed, IntKind.bits]; omega
        have W2 : IntKind.i64.wrap ((a : Int) + y.size) = (a : Int) + y.size := by simp [IntKind.wrap, IntKind.signed, IntKind.bits]; omega
        have e1 : (s.extract 0 a).size ≤ s.size := by simp; omega
        have e2 : (s.extract (a + y.size) s.size).size ≤ s.size := by simp
        have R1 : ∀ w, (Op.stringOp .add (s.extract 0 a) z).run Tryd.prog w = .ok (.string (s.extract 0 a ++ z)) w := fun w => run_string_add_sum w _ _ (by omega)
        have R2 : ∀ w, (Op.stringOp .add (s.extract 0 a ++ z) (s.extract (a + y.size) s.size)).run Tryd.prog w = .ok (.string (s.extract 0 a ++ z ++ s.extract (a + y.size) s.size)) w := fun w => run_string_add_sum w _ _ (by rw [ByteArray.size_append]; omega)
        clear e1 e2
        have W3 : ((a : Int) + (y.size : Int)).toNat = a + y.size := by omega
        go_region_held3 (fun w' => w.heap.size ≤ w'.heap.size ∧ Below w.heap.size w w') (first | exact keepB SB (below_drew _) | (refine keepB ?_ (by assumption); assumption)) (first | (go_at_call 23; with_reducible refine (HO.out _ (by assumption)).mono ?_; rintro e w' ⟨rfl, hb2⟩))
        rename_i SE
        go_wp2_with fail
        go_ret2
        exact flip_some (by rw [HF3.out, bytes_app, bytes_app, ext_to, ext_from]) SE.2
end Go.Proofs.YtpclacofcfbpjaaDoor
