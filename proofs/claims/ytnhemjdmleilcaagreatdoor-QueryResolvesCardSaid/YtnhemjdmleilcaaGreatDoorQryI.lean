/- The walk of query.Parse. Condition: Go's tables and the words lie below the world's blocks (EnvB). -/
import Derived.Test.YtnhemjdmleilcaaGreatDoorQryG
import Derived.Test.YtnhemjdmleilcaaGreatDoorQryV
namespace Go.Proofs.YtnhemjdmleilcaaGreatDoor
open Go.RowKit

/-- What Parse promises. -/
def QPost (l : List UInt8) (w : World) (e : Ending) (w' : World) : Prop := e = .returned (.tuple #[QV (parseQ l), .int .i64 (parseE l)]) ∧ Below w.heap.size w w'
theorem qpost {l : List UInt8} {w w' : World} {q : Qr} {n : Int} (h1 : parseE l = n) (h2 : parseQ l = q) (hb : Below w.heap.size w w') : QPost l w (.returned (.tuple #[QV q, .int .i64 n])) w' := ⟨by rw [h1, h2], hb⟩
theorem parseQ_bad {l : List UInt8} {n : Int} (h : parseE l = n) (hn : n ≠ 0) : parseQ l = Qr.zero := by
  unfold parseQ; rw [if_neg (by rw [h]; exact hn)]
theorem index_mem (c : UInt8) : ∀ l : List UInt8, decide (0 ≤ Lib.indexByte l c) = decide (c ∈ l) := by
  intro l
  induction l with
  | nil => simp [Lib.indexByte]
  | cons x r ih =>
    have hg := Lib.indexByte_ge r c
    rw [decide_eq_decide] at ih ⊢
    unfold Lib.indexByte
    by_cases hx : x = c
    · subst hx; simp
    · have h1 : (x == c) = false := by simpa using hx
      rw [h1]
      simp only [Bool.false_eq_true, if_false, List.mem_cons]
      rw [← ih]
      have h2 : ¬ c = x := fun e => hx e.symm
      by_cases h3 : Lib.indexByte r c = -1
      · rw [h3]; simp [h2]
      · rw [if_neg (by simpa using h3)]
        constructor
        · intro h; right; omega
        · rintro (h | h)
          · exact absurd h h2
          · omega
theorem fields_len (cm : Int) : ∀ (l : List UInt8) (o : Option (List UInt8)) (f : List UInt8), f ∈ fieldsGo cm o l → f.length ≤ l.length + (o.getD []).length := by
  intro l
  induction l with
  | nil =>
    intro o f hf
    cases o with
    | none => simp [fieldsGo] at hf
    | some x => simp [fieldsGo] at hf; subst hf; simp
  | cons b r ih =>
    intro o f hf
    cases o with
    | none =>
      unfold fieldsGo at hf
      split at hf
      · have := ih none f hf; simp at this ⊢; omega
      · split at hf
        · simp at hf
        · have := ih _ f hf; simp at this ⊢; omega
    | some x =>
      unfold fieldsGo at hf
      split at hf
      · rcases List.mem_cons.1 hf with rfl | hf
        · simp
        · have := ih none f hf; simp at this ⊢; omega
      · have := ih _ f hf; simp at this ⊢; omega
theorem fields_short {cm : Int} {l : List UInt8} (h : l.length ≤ 1000000000) : (⟨fieldsOf cm l, false⟩ : Ps).short := by
  intro f hf
  have := fields_len cm l none f hf
  simp at this
  omega
theorem own_cap {w : World} {base : Nat} {e : TypeId} {size n : Nat} {v : Value} {xs : List Value} (h : w.ownsRow base e size v n xs) : ∃ A c, v = .slice A n c ∧ n ≤ c := by
  obtain ⟨hl, h⟩ := h
  rcases h with ⟨rfl, rfl⟩ | ⟨g, cap, cur, rfl, hb, hh, hn, hm, hc, ht⟩
  · exact ⟨_, _, rfl, Nat.le_refl _⟩
  · exact ⟨_, _, rfl, hn⟩
/-- The parser, just laid. -/
theorem PSt.start {T : TypeId} {w : World} {v : Value} {base : Nat} {fs : List (List UInt8)} (ho : w.ownsRow base 9 1 v fs.length (fs.map strV)) :
    PSt T w.heap.size (w.heap.size + 1) ⟨fs, false⟩ (w.alloc (.cells #[v, .bool false] T)) := by
  refine ⟨Nat.lt_succ_self _, by simp, v, heap_alloc_new w _, ?_, own_cap ho⟩
  exact ((Slc.of_own ho).alloc (Nat.le_refl _) _).mono (Nat.le_succ _)

theorem parseE_lines {l : List UInt8} (h : linesErr l ≠ 0) : parseE l = linesErr l := by unfold parseE; rw [if_pos h]
theorem parseE_feed {l : List UInt8} (h : linesErr l = 0) (h2 : (10 : UInt8) ∈ l) : parseE l = 2 := by
  unfold parseE; rw [if_neg (by rw [h]; simp), if_pos h2]
theorem parseE_rest {l : List UInt8} (h : linesErr l = 0) (h2 : (10 : UInt8) ∉ l) {x : St} (hx : queryOf ⟨fieldsOf 35 l, false⟩ = x) : parseE l = if x.2.bad || !x.2.fs.isEmpty then 2 else validE x.1 := by
  unfold parseE; rw [if_neg (by rw [h]; simp), if_neg h2, hx]
theorem parseQ_ok {l : List UInt8} (h : parseE l = 0) {x : St} (hx : queryOf ⟨fieldsOf 35 l, false⟩ = x) : parseQ l = x.1 := by
  unfold parseQ; rw [if_pos h, hx]
theorem len_of_lines {s : ByteArray} (h : linesErr (bytes s) = 0) : s.size ≤ 65536 := by
  rcases Nat.lt_or_ge 65536 s.size with hl | hl
  · rw [lines_of_limit hl] at h; exact absurd h (by decide)
  · exact hl
theorem Zbox (w : World) : HasQ w.heap.size Qr.zero (w.alloc (.cells (QC Qr.zero) 33)) := heap_alloc_new w _
theorem PSt.past {T : TypeId} {b G : Nat} {p : Ps} {w w' : World} {o : Obj} (h : PSt T b G p w) (hg : (w.alloc o).grownBy w' (some w.heap.size)) :
    ∃ A c, w'.cell? ⟨b, 0, none⟩ = some (.slice A p.fs.length c) ∧ w'.cell? ⟨b, 1, none⟩ = some (.bool p.bad) := by
  have hb : Below w.heap.size w w' := ((Below.refl w.heap.size w).alloc (Nat.le_refl _) o).trans (below_of_grown hg (Nat.le_refl _) (by simp))
  obtain ⟨-, -, v, hv, -, A, c, rfl, -⟩ := h.keep (hb.mono h.2.1)
  exact ⟨A, c, by rw [Lib.cell_of_heap hv]; rfl, by rw [Lib.cell_of_heap hv]; rfl⟩

set_option maxRecDepth 100000 in
set_option maxHeartbeats 2000000 in
theorem qparse_any (s : ByteArray) (w : World) (he : EnvB w.heap.size w) : Calls Tryz.prog 10 #[.string s] w (QPost (bytes s) w) := by
  have HE := Lib.hid he
  have Z0 := Lib.hid (Zbox w)
  have B0 := Lib.hid ((Below.refl w.heap.size w).alloc (Nat.le_refl _) (.cells (QC Qr.zero) 33))
  clear he
  go_enter Tryz.func10, Tryz.ntmps10
  go_wp2_with fail
  refine (lines_any s _).mono ?_
  rintro e w1 ⟨v1, rfl, -, hb⟩
  have Z1 := Lib.hid (Z0.out.below hb (by simp))
  have B1 := Lib.hid (B0.out.trans (hb.mono (by simp)))
  clear hb
  by_cases hl : linesErr (bytes s) = 0
  case neg =>
    have hn : (linesErr (bytes s) != 0) = true := by simpa using hl
    have E1 := Lib.hid (parseE_lines hl)
    have E2 := Lib.hid (parseQ_bad (parseE_lines hl) hl)
    clear hl
    go_wp2_with (first | (refine wpList_storeQ (q' := Qr.zero) rfl _ _ rfl rfl rfl Z1.out ?_; intro wz hz1 hz2))
    refine bodyPost_ret (results_cell2 rfl rfl rfl hz1.load) rfl (qpost E1.out E2.out ?_)
    exact B1.out.trans (below_of_grown hz2 (Nat.le_refl _) B1.out.size)
  have HL := Lib.hid hl
  have hsz := len_of_lines hl
  rw [hl]
  clear hl
  go_wp2_with fail
  refine (Tryz.strings_Contains_one s 10 _).mono ?_
  rintro e w' ⟨rfl, rfl⟩
  rw [index_mem]
  by_cases hf : (10 : UInt8) ∈ s.data.toList
  case pos =>
    have E1 := Lib.hid (parseE_feed HL.out hf)
    have E2 := Lib.hid (parseQ_bad (parseE_feed HL.out hf) (by decide))
    have hd : decide ((10 : UInt8) ∈ s.data.toList) = true := decide_eq_true hf
    rw [hd]
    clear hf hd
    go_wp2_with (first | (refine wpList_storeQ (q' := Qr.zero) rfl _ _ rfl rfl rfl Z1.out ?_; intro wz hz1 hz2))
    refine bodyPost_ret (results_cell2 rfl rfl rfl hz1.load) rfl (qpost E1.out E2.out ?_)
    exact B1.out.trans (below_of_grown hz2 (Nat.le_refl _) B1.out.size)
  have E0 := Lib.hid (fun (x : St) (hx : queryOf ⟨fieldsOf 35 (bytes s), false⟩ = x) => parseE_rest HL.out hf hx)
  have E3 := Lib.hid (fun (x : St) (h : parseE (bytes s) = 0) (hx : queryOf ⟨fieldsOf 35 (bytes s), false⟩ = x) => parseQ_ok h hx)
  have hd : decide ((10 : UInt8) ∈ s.data.toList) = false := decide_eq_false hf
  rw [hd]
  clear hf hd
  go_wp2_with fail
  refine (fields_any s 35 _ (by omega)).mono ?_
  rintro e w2 ⟨v2, rfl, hown, hb⟩
  obtain ⟨A2, k2, rfl, -⟩ := own_cap hown
  have hz2 : w.heap.size + 1 ≤ w2.heap.size := Nat.le_trans (blk_lt Z1.out) hb.size
  have Z2 := Lib.hid (Z1.out.below hb (blk_lt Z1.out))
  have B2 := Lib.hid (B1.out.trans (hb.mono B1.out.size))
  have HP := Lib.hid (PSt.start (T := 86) hown)
  have B3 := Lib.hid (B2.out.alloc B2.out.size (.cells #[.slice A2 (fieldsOf 35 (bytes s)).length k2, .bool false] 86))
  have Z3 := Lib.hid (Z2.out.below ((Below.refl w2.heap.size w2).alloc (Nat.le_refl _) (.cells #[.slice A2 (fieldsOf 35 (bytes s)).length k2, .bool false] 86)) (blk_lt Z2.out))
  clear hb hown
  go_wp2_with fail
  refine (query_any w2.heap.size (w2.heap.size + 1) w.heap.size ⟨fieldsOf 35 (bytes s), false⟩ _ HP.out (HE.out.keep B3.out) B2.out.size (fields_short (by rw [bytes_len]; omega))).mono ?_
  rintro e w4 ⟨rfl, hp4, hg4⟩
  have hfit := queryOf_fit ⟨fieldsOf 35 (bytes s), false⟩
  generalize hx : queryOf ⟨fieldsOf 35 (bytes s), false⟩ = x at hp4 hfit ⊢
  replace hx := Lib.hid hx
  have Z4 := Lib.hid (Z3.out.grown hg4 (fun e => by injection e; omega))
  have B4 := Lib.hid (B3.out.trans (below_of_grown hg4 B2.out.size B3.out.size))
  have hz4 : w2.heap.size + 1 ≤ w4.heap.size := by have := hg4.size; simpa using this
  have P4 := Lib.hid hp4
  have Y4 := Lib.hid (Zbox w4)
  clear hp4 hg4
  obtain ⟨q, fs, bad⟩ := x
  have B5 : Hid (∀ w5, (w4.alloc (.cells (QC Qr.zero) 33)).grownBy w5 (some w4.heap.size) → Below w.heap.size w w5 ∧ HasQ w.heap.size Qr.zero w5 ∧ w4.heap.size + 1 ≤ w5.heap.size) := Lib.hid (fun w5 hg5 => by
    have hb : Below w4.heap.size w4 w5 := ((Below.refl w4.heap.size w4).alloc (Nat.le_refl _) _).trans (below_of_grown hg5 (Nat.le_refl _) (by simp))
    exact ⟨B4.out.trans (hb.mono B4.out.size), Z4.out.below hb (blk_lt Z4.out), by have := hg5.size; simpa using this⟩)
  have E4 := Lib.hid (E0.out _ hx.out)
  have E5 := Lib.hid (fun h => E3.out _ h hx.out)
  clear E0 E3 hx
  dsimp only at E4 E5 hfit ⊢
  cases bad with
  | true =>
    have E1 : Hid (parseE (bytes s) = 2) := Lib.hid (by rw [E4.out]; rfl)
    go_wp2_with (first | (refine wpList_storeQ (q' := q) rfl _ _ rfl rfl rfl Y4.out ?_; intro w5 hq5 hg5; obtain ⟨A5, k5, c0, c1⟩ := P4.out.past hg5; obtain ⟨B6, Z6, -⟩ := B5.out _ hg5; dsimp only at c0 c1) | (refine wpList_storeQ (q' := Qr.zero) rfl _ _ rfl rfl rfl Z6 ?_; intro wz hz1 hz2))
    refine bodyPost_ret (results_cell2 rfl rfl rfl hz1.load) rfl (qpost E1.out (parseQ_bad E1.out (by decide)) ?_)
    exact B6.trans (below_of_grown hz2 (Nat.le_refl _) B6.size)
  | false =>
  cases fs with
  | cons f r =>
    have E1 : Hid (parseE (bytes s) = 2) := Lib.hid (by rw [E4.out]; rfl)
    go_wp2_with (first | (refine wpList_storeQ (q' := q) rfl _ _ rfl rfl rfl Y4.out ?_; intro w5 hq5 hg5; obtain ⟨A5, k5, c0, c1⟩ := P4.out.past hg5; obtain ⟨B6, Z6, -⟩ := B5.out _ hg5; dsimp only at c0 c1) | (refine wpList_storeQ (q' := Qr.zero) rfl _ _ rfl rfl rfl Z6 ?_; intro wz hz1 hz2))
    refine bodyPost_ret (results_cell2 rfl rfl rfl hz1.load) rfl (qpost E1.out (parseQ_bad E1.out (by decide)) ?_)
    exact B6.trans (below_of_grown hz2 (Nat.le_refl _) B6.size)
  | nil =>
  have E1 : Hid (parseE (bytes s) = validE q) := Lib.hid (by rw [E4.out]; rfl)
  go_wp2_with (first | (refine wpList_storeQ (q' := q) rfl _ _ rfl rfl rfl Y4.out ?_; intro w5 hq5 hg5; obtain ⟨A5, k5, c0, c1⟩ := P4.out.past hg5; obtain ⟨B6, Z6, hz6⟩ := B5.out _ hg5; dsimp only at c0 c1) | (refine wpList_loadQ rfl _ rfl rfl hq5 ?_))
  refine (qvalid_any q _ hfit).mono ?_
  rintro e w6 ⟨rfl, hb⟩
  have Z7 := Lib.hid (Z6.below hb (blk_lt Z6))
  have Q7 := Lib.hid (hq5.below hb (blk_lt hq5))
  have B7 := Lib.hid (B6.trans (hb.mono B6.size))
  by_cases hv : validE q = 0
  case neg =>
    have hn : (validE q != 0) = true := by simpa using hv
    have HV := Lib.hid hv
    clear hv hb
    go_wp2_with (first | (refine wpList_storeQ (q' := Qr.zero) rfl _ _ rfl rfl rfl Z7.out ?_; intro wz hz1 hz2))
    refine bodyPost_ret (results_cell2 rfl rfl rfl hz1.load) rfl (qpost E1.out (parseQ_bad E1.out HV.out) ?_)
    exact B7.out.trans (below_of_grown hz2 (Nat.le_refl _) B7.out.size)
  have HV := Lib.hid hv
  rw [hv]
  clear hv hb
  go_wp2_with (first | (refine wpList_loadQ rfl _ rfl rfl Q7.out ?_) | (refine wpList_storeQ (q' := q) rfl _ _ rfl rfl rfl Z7.out ?_; intro wz hz1 hz2))
  refine bodyPost_ret (results_cell2 rfl rfl rfl hz1.load) rfl (qpost (E1.out.trans HV.out) (E5.out (E1.out.trans HV.out)) ?_)
  exact B7.out.trans (below_of_grown hz2 (Nat.le_refl _) B7.out.size)
end Go.Proofs.YtnhemjdmleilcaaGreatDoor
