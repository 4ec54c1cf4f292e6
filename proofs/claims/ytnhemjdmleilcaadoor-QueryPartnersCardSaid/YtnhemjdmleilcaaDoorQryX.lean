/- A valid query's text is read back as the query: plain Lean. No condition. -/
import Derived.Test.YtnhemjdmleilcaaDoorQryM
import Derived.Test.YtnhemjdmleilcaaDoorQryI
namespace Go.Proofs.YtnhemjdmleilcaaDoor
open Go.RowKit

theorem digC_nat : ∀ n : Nat, n < 10 → (digC n).toNat = 48 + n := by decide +kernel
theorem dec_digs (n : Nat) : ∀ x ∈ dec n, 48 ≤ x.toNat ∧ x.toNat ≤ 57 := by
  induction n using Nat.strongRecOn with
  | ind n ih =>
    by_cases h : n < 10
    · rw [dec_small h]
      intro x hx
      obtain rfl := List.mem_singleton.1 hx
      rw [digC_nat n h]; omega
    · rw [dec_big h]
      intro x hx
      rcases List.mem_append.1 hx with hx | hx
      · exact ih (n / 10) (by omega) x hx
      · obtain rfl := List.mem_singleton.1 hx
        rw [digC_nat _ (Nat.mod_lt _ (by omega))]; omega
theorem dec_nodot (n : Nat) : ∀ x ∈ dec n, (x.toNat : Int) ≠ 46 := fun x hx => by have := dec_digs n x hx; omega
theorem dots_fmt (a : Nat) : dots (fmtA a) = [dec (byteA a 0), dec (byteA a 1), dec (byteA a 2), dec (byteA a 3)] := by
  rw [fmtA_eq]
  simp only [List.append_assoc, List.cons_append, List.nil_append]
  unfold dots
  rw [dotGo_hit _ _ _ (dec_nodot _), dotGo_hit _ _ _ (dec_nodot _), dotGo_hit _ _ _ (dec_nodot _), dotGo_none _ _ (dec_nodot _)]
  simp
theorem numIn_dec {n : Nat} {m : Int} (h : (n : Int) ≤ m) (hn : n ≤ 9999999999) : numIn (dec n) 0 m = some (n : Int) := by
  unfold numIn; rw [numOf_dec n hn]; simp only []; rw [if_pos (by omega)]
theorem parse_fmt {a : Nat} (ha : a < 4294967296) : parseA (fmtA a) = some a := by
  unfold parseA
  rw [dots_fmt, if_pos (by rfl)]
  have h0 := byteA_lt a 0
  have h1 := byteA_lt a 1
  have h2 := byteA_lt a 2
  have h3 := byteA_lt a 3
  rw [octs_yes (numIn_dec (by omega) (by omega)), octs_yes (numIn_dec (by omega) (by omega)), octs_yes (numIn_dec (by omega) (by omega)), octs_yes (numIn_dec (by omega) (by omega)), octs]
  congr 1
  unfold byteA oct
  simp only [Nat.reduceMul, Nat.reduceSub, Nat.reducePow, Nat.pow_zero]
  omega
theorem index_slash_hit {a b : List UInt8} (h : ∀ x ∈ a, (x.toNat : Int) ≠ 47) : Lib.index (a ++ 47 :: b) [47] = a.length := by
  apply Lib.index_first (by simp)
  · unfold Lib.occAt; rw [List.drop_left]; rfl
  · intro j hj
    unfold Lib.occAt
    rw [List.drop_append_of_le_length (by omega)]
    cases hd : a.drop j with
    | nil => have := congrArg List.length hd; simp at this; omega
    | cons c r =>
      have hc : c ∈ a := List.mem_of_mem_drop (by rw [hd]; exact List.mem_cons_self)
      have h2 : c ≠ 47 := fun e => h c hc (by rw [e]; rfl)
      simp [List.isPrefixOf, Ne.symm h2]
theorem dec_noslash (n : Nat) : ∀ x ∈ dec n, (x.toNat : Int) ≠ 47 := fun x hx => by have := dec_digs n x hx; omega
theorem fmt_bytes (a : Nat) : ∀ x ∈ fmtA a, x.toNat = 46 ∨ 48 ≤ x.toNat ∧ x.toNat ≤ 57 := by
  rw [fmtA_eq]
  intro x hx
  simp only [List.mem_append, List.mem_singleton] at hx
  rcases hx with (((((hx | rfl) | hx) | rfl) | hx) | rfl) | hx
  all_goals first
    | exact .inr (dec_digs _ x hx)
    | exact .inl rfl
theorem fmt_noslash (a : Nat) : ∀ x ∈ fmtA a, (x.toNat : Int) ≠ 47 := fun x hx => by have := fmt_bytes a x hx; omega
theorem host_back {a : Nat} (ha : a < 4294967296) {n : Int} (h0 : 0 ≤ n) (h1 : n ≤ 32) : hostA (hostF a n) = some (a, n) := by
  unfold hostF
  rw [if_pos ⟨h0, h1⟩, List.append_assoc, List.singleton_append]
  have hi := index_slash_hit (b := dec n.toNat) (fmt_noslash a)
  refine host_yes hi ?_ ?_
  · rw [List.take_left, parse_fmt ha]
  · rw [← List.drop_drop, List.drop_left]
    show numIn (dec n.toNat) 0 32 = some n
    rw [numIn_dec (by omega) (by omega)]
    congr 1; omega
theorem pfx_back {p : Nat} (hp : p < 4294967296) {n : Int} (h : validP p n = true) : pfxA (pfxF p n) = some (p, n) := by
  have hv : 0 ≤ n ∧ n ≤ 32 := by
    unfold validP at h
    simp only [Bool.and_eq_true, decide_eq_true_eq] at h
    exact h.1
  unfold pfxF pfxA
  rw [if_pos h, host_back hp hv.1 hv.2]
  simp [h]

/-- A word that stands in a text as it is. -/
def okB (x : List UInt8) : Bool := !x.isEmpty && x.all fun b => decide (33 ≤ b.toNat) && decide (b.toNat ≤ 126) && decide (b.toNat ≠ 35)
theorem okB_byte {x : List UInt8} (h : okB x = true) : ∀ b ∈ x, 33 ≤ b.toNat ∧ b.toNat ≤ 126 ∧ b.toNat ≠ 35 := by
  unfold okB at h
  simp only [Bool.and_eq_true, List.all_eq_true, decide_eq_true_eq] at h
  exact fun b hb => ⟨(h.2 b hb).1.1, (h.2 b hb).1.2, (h.2 b hb).2⟩
theorem okB_mk {x : List UInt8} (h : x ≠ []) (hb : ∀ b ∈ x, 33 ≤ b.toNat ∧ b.toNat ≤ 126 ∧ b.toNat ≠ 35) : okB x = true := by
  unfold okB
  simp only [Bool.and_eq_true, List.all_eq_true, decide_eq_true_eq]
  exact ⟨by cases x with | nil => exact absurd rfl h | cons => rfl, fun b hx => ⟨⟨(hb b hx).1, (hb b hx).2.1⟩, (hb b hx).2.2⟩⟩
theorem ok_name {x : List UInt8} (h : nameB x = true) : okB x = true := by
  cases x with
  | nil => cases h
  | cons c r =>
    simp only [nameB, Bool.and_eq_true, decide_eq_true_eq, nameRest, List.all_eq_true] at h
    refine okB_mk (by simp) (fun b hb => ?_)
    have hc : nameC b.toNat = true := by
      rcases List.mem_cons.1 hb with rfl | hb
      · simp [nameC, h.1.2]
      · exact h.2 b hb
    simp only [nameC, letterB, digitB, Bool.or_eq_true, Bool.and_eq_true, decide_eq_true_eq, beq_iff_eq] at hc
    omega
theorem ok_dec (n : Nat) : okB (dec n) = true := okB_mk (dec_pos n) (fun b hb => by have := dec_digs n b hb; omega)
theorem ok_pfx {p : Nat} {n : Int} (h : validP p n = true) : okB (pfxF p n) = true := by
  have hv : 0 ≤ n ∧ n ≤ 32 := by
    unfold validP at h
    simp only [Bool.and_eq_true, decide_eq_true_eq] at h
    exact h.1
  unfold pfxF hostF
  rw [if_pos h, if_pos hv]
  refine okB_mk (by simp) (fun b hb => ?_)
  simp only [List.mem_append, List.mem_singleton] at hb
  rcases hb with (hb | rfl) | hb
  · have := fmt_bytes p b hb; omega
  · decide
  · have := dec_digs _ b hb; omega
theorem ok_blank {b : UInt8} (h : 33 ≤ b.toNat ∧ b.toNat ≤ 126 ∧ b.toNat ≠ 35) : blankB b.toNat = false := by
  unfold blankB
  simp only [Bool.or_eq_false_iff, beq_eq_false_iff_ne, ne_eq]
  omega
/-- Words, a blank ahead of each. -/
def spw (ws : List (List UInt8)) : List UInt8 := ws.flatMap fun x => 32 :: x
theorem spw_app (a b : List (List UInt8)) : spw (a ++ b) = spw a ++ spw b := by simp [spw]
theorem spw_cons (x : List UInt8) (r : List (List UInt8)) : spw (x :: r) = 32 :: (x ++ spw r) := by simp [spw]
theorem fields_run (cm : Int) (t : List UInt8) : ∀ (x p : List UInt8), (∀ b ∈ x, blankB b.toNat = false) → fieldsGo cm (some p) (x ++ t) = fieldsGo cm (some (p ++ x)) t := by
  intro x
  induction x with
  | nil => intro p _; simp
  | cons b r ih =>
    intro p h
    rw [List.cons_append, fieldsGo, if_neg (by rw [h b List.mem_cons_self]; simp), ih _ (fun c hc => h c (List.mem_cons_of_mem _ hc))]
    simp
theorem fields_one {x : List UInt8} (h : okB x = true) (t : List UInt8) : fieldsGo 35 none (x ++ t) = fieldsGo 35 (some x) t := by
  have hb := okB_byte h
  cases x with
  | nil => cases h
  | cons b r =>
    have h1 := hb b List.mem_cons_self
    rw [List.cons_append, fieldsGo, if_neg (by rw [ok_blank h1]; simp), if_neg (by omega), fields_run _ _ _ _ (fun c hc => ok_blank (hb c (List.mem_cons_of_mem _ hc)))]
    rfl
theorem fields_spw : ∀ (ws : List (List UInt8)) (p : List UInt8), (∀ x ∈ ws, okB x = true) → fieldsGo 35 (some p) (spw ws) = p :: ws := by
  intro ws
  induction ws with
  | nil => intro p _; rfl
  | cons x r ih =>
    intro p h
    rw [spw_cons, fieldsGo, if_pos (by decide), fields_one (h x List.mem_cons_self), ih _ (fun y hy => h y (List.mem_cons_of_mem _ hy))]
theorem fields_text {x : List UInt8} {ws : List (List UInt8)} (hx : okB x = true) (h : ∀ y ∈ ws, okB y = true) : fieldsOf 35 (x ++ spw ws) = x :: ws := by
  unfold fieldsOf; rw [fields_one hx, fields_spw ws x h]
theorem spw_bytes {x : List UInt8} {ws : List (List UInt8)} (hx : okB x = true) (h : ∀ y ∈ ws, okB y = true) : ∀ b ∈ x ++ spw ws, 32 ≤ b.toNat ∧ b.toNat ≤ 126 := by
  intro b hb
  rcases List.mem_append.1 hb with hb | hb
  · have := okB_byte hx b hb; omega
  · unfold spw at hb
    obtain ⟨y, hy, hb⟩ := List.mem_flatMap.1 hb
    rcases List.mem_cons.1 hb with rfl | hb
    · decide
    · have := okB_byte (h y hy) b hb; omega

/-- The words of a query behind its kind, section by section. -/
def plW (word r i : List UInt8) : List (List UInt8) := if i.isEmpty then [word, r] else [word, r, wIface, i]
def sec2 (q : Qr) : List (List UInt8) := if aimedB q.kind then plW wTo q.tr q.ti else []
def sec3 (q : Qr) : List (List UInt8) := if q.kind = 3 then [wVia, q.via] else if q.kind = 6 then [wLeft, pfxF q.la q.ll, wRight, pfxF q.ra q.rl] else []
def sec4 (q : Qr) : List (List UInt8) := if zeroP q.sa q.sl then [] else [wSrc, pfxF q.sa q.sl]
def sec5 (q : Qr) : List (List UInt8) := if zeroP q.da q.dl then [] else [wDst, pfxF q.da q.dl]
def sec6 (q : Qr) : List (List UInt8) := if q.proto = -1 then [] else [wProto, dec q.proto.toNat]
def secP (word : List UInt8) (lo hi : Int) : List (List UInt8) := if lo = 0 ∧ hi = 65535 then [] else [word, dec lo.toNat, dec hi.toNat]
def sec9 (q : Qr) : List (List UInt8) := if q.fails = 0 then [] else [wFails, dec q.fails.toNat]
def R8 (q : Qr) : List (List UInt8) := secP wDport q.dlo q.dhi ++ sec9 q
def R7 (q : Qr) : List (List UInt8) := secP wSport q.slo q.shi ++ R8 q
def R6 (q : Qr) : List (List UInt8) := sec6 q ++ R7 q
def R5 (q : Qr) : List (List UInt8) := sec5 q ++ R6 q
def R4 (q : Qr) : List (List UInt8) := sec4 q ++ R5 q
def R3 (q : Qr) : List (List UInt8) := sec3 q ++ R4 q
def R2 (q : Qr) : List (List UInt8) := sec2 q ++ R3 q
def R1 (q : Qr) : List (List UInt8) := plW wFrom q.fr q.fi ++ R2 q
theorem spw_pl (b w r i : List UInt8) (h : b = 32 :: (w ++ [32])) : placeT b r i = spw (plW w r i) := by
  unfold placeT plW
  subst h
  split
  · simp [spw, cat]
  · simp [spw, cat, bIface, wIface]
theorem spw_port (b w : List UInt8) (lo hi : Int) (h : b = 32 :: (w ++ [32])) : portT b lo hi = spw (secP w lo hi) := by
  unfold portT secP
  subst h
  split
  · simp [spw]
  · simp [spw, cat]
theorem fm1_spw (q : Qr) : fm1 q = kindT q.kind ++ spw (plW wFrom q.fr q.fi) := by
  unfold fm1 cat; rw [spw_pl bFrom wFrom _ _ rfl]
theorem fm2_spw (q : Qr) : fm2 q = fm1 q ++ spw (sec2 q) := by
  unfold fm2 sec2 cat; rw [spw_pl bTo wTo _ _ rfl]; split
  · rfl
  · simp [spw]
theorem fm3_spw (q : Qr) : fm3 q = fm2 q ++ spw (sec3 q) := by
  unfold fm3 sec3 cat; split
  · simp [spw, bVia, wVia]
  · split
    · simp [spw, bLeft, wLeft, bRight, wRight]
    · simp [spw]
theorem fm4_spw (q : Qr) : fm4 q = fm3 q ++ spw (sec4 q) := by
  unfold fm4 sec4 cat; split <;> simp [spw, bSrc, wSrc]
theorem fm5_spw (q : Qr) : fm5 q = fm4 q ++ spw (sec5 q) := by
  unfold fm5 sec5 cat; split <;> simp [spw, bDst, wDst]
theorem fm6_spw (q : Qr) : fm6 q = fm5 q ++ spw (sec6 q) := by
  unfold fm6 sec6 cat; split <;> simp [spw, bProto, wProto]
theorem fm7_spw (q : Qr) : fm7 q = fm6 q ++ (spw (secP wSport q.slo q.shi) ++ spw (secP wDport q.dlo q.dhi)) := by
  unfold fm7 cat; rw [spw_port bSport wSport _ _ rfl, spw_port bDport wDport _ _ rfl]
theorem fm8_spw (q : Qr) : fm8 q = fm7 q ++ spw (sec9 q) := by
  unfold fm8 sec9 cat; split <;> simp [spw, bFails, wFails]
theorem fmt_spw (q : Qr) : fm8 q = kindT q.kind ++ spw (R1 q) := by
  rw [fm8_spw, fm7_spw, fm6_spw, fm5_spw, fm4_spw, fm3_spw, fm2_spw, fm1_spw]
  unfold R1 R2 R3 R4 R5 R6 R7 R8
  simp only [spw_app, List.append_assoc]
/-- All words are plain. -/
def okA (ws : List (List UInt8)) : Prop := ∀ x ∈ ws, okB x = true
theorem okA_app {a b : List (List UInt8)} (ha : okA a) (hb : okA b) : okA (a ++ b) := fun x hx => (List.mem_append.1 hx).elim (ha x) (hb x)
theorem okA_nil : okA [] := fun _ h => by cases h
theorem okA_cons {x : List UInt8} {r : List (List UInt8)} (hx : okB x = true) (hr : okA r) : okA (x :: r) := fun y hy => by
  rcases List.mem_cons.1 hy with rfl | hy
  · exact hx
  · exact hr y hy
theorem okA_pl {w r i : List UInt8} (hw : okB w = true) (hr : nameB r = true) (hi : optB i = true) : okA (plW w r i) := by
  unfold plW
  split
  · exact okA_cons hw (okA_cons (ok_name hr) okA_nil)
  · next h =>
    unfold optB at hi
    have h2 : i.isEmpty = false := by simpa using h
    rw [h2, Bool.false_or] at hi
    exact okA_cons hw (okA_cons (ok_name hr) (okA_cons (by decide) (okA_cons (ok_name hi) okA_nil)))
theorem okA_port {w : List UInt8} (hw : okB w = true) (lo hi : Int) : okA (secP w lo hi) := by
  unfold secP
  split
  · exact okA_nil
  · exact okA_cons hw (okA_cons (ok_dec _) (okA_cons (ok_dec _) okA_nil))
theorem okA_R {q : Qr} (h : Okq q) : okA (R1 q) := by
  have h9 : okA (sec9 q) := by
    unfold sec9; split
    · exact okA_nil
    · exact okA_cons (by decide) (okA_cons (ok_dec _) okA_nil)
  have h6 : okA (sec6 q) := by
    unfold sec6; split
    · exact okA_nil
    · exact okA_cons (by decide) (okA_cons (ok_dec _) okA_nil)
  have h5 : okA (sec5 q) := by
    unfold sec5; split
    · exact okA_nil
    · exact okA_cons (by decide) (okA_cons (ok_pfx h.vd) okA_nil)
  have h4 : okA (sec4 q) := by
    unfold sec4; split
    · exact okA_nil
    · exact okA_cons (by decide) (okA_cons (ok_pfx h.vs) okA_nil)
  have h3 : okA (sec3 q) := by
    unfold sec3; split
    · next h3 => exact okA_cons (by decide) (okA_cons (ok_name (h.via h3)) okA_nil)
    · split
      · next h6 => exact okA_cons (by decide) (okA_cons (ok_pfx (h.eq h6).1) (okA_cons (by decide) (okA_cons (ok_pfx (h.eq h6).2.1) okA_nil)))
      · exact okA_nil
  have h2 : okA (sec2 q) := by
    unfold sec2; split
    · next ha => exact okA_pl (by decide) (h.aim ha).1 (h.aim ha).2
    · exact okA_nil
  exact okA_app (okA_pl (by decide) h.fr h.fi) (okA_app h2 (okA_app h3 (okA_app h4 (okA_app h5 (okA_app h6 (okA_app (okA_port (by decide) _ _) (okA_app (okA_port (by decide) _ _) h9)))))))
theorem ok_kind {k : Int} (h1 : 1 ≤ k) (h2 : k ≤ 6) : okB (kindT k) = true ∧ kindOf (kindT k) = k := by
  have hk : k = 1 ∨ k = 2 ∨ k = 3 ∨ k = 4 ∨ k = 5 ∨ k = 6 := by omega
  rcases hk with rfl | rfl | rfl | rfl | rfl | rfl <;> exact ⟨by decide, by decide⟩

/-- What the next word may be. -/
def Hd (ks : List (List UInt8)) (ws : List (List UInt8)) : Prop := ws = [] ∨ ∃ f r, ws = f :: r ∧ f ∈ ks
theorem Hd.acc {ks ws : List (List UInt8)} (h : Hd ks ws) {w : List UInt8} (hw : w ∉ ks) : accB w ⟨ws, false⟩ = false := by
  rcases h with rfl | ⟨f, r, rfl, hf⟩
  · rfl
  · show (f == w) = false
    rw [beq_eq_false_iff_ne]
    rintro rfl
    exact hw hf
theorem Hd.more {ks js ws : List (List UInt8)} (h : Hd ks ws) (hj : ∀ x ∈ ks, x ∈ js) : Hd js ws := by
  rcases h with rfl | ⟨f, r, rfl, hf⟩
  · exact .inl rfl
  · exact .inr ⟨f, r, rfl, hj f hf⟩
theorem Hd.sec {w : List UInt8} {s ks ws : List (List UInt8)} (h : Hd ks ws) (hs : s = [] ∨ ∃ r, s = w :: r) : Hd (w :: ks) (s ++ ws) := by
  rcases hs with rfl | ⟨r, rfl⟩
  · exact h.more (fun x hx => List.mem_cons_of_mem _ hx)
  · exact .inr ⟨w, r ++ ws, rfl, List.mem_cons_self⟩
theorem opt_sec {c : Prop} [Decidable c] {w : List UInt8} {r : List (List UInt8)} : (if c then [] else w :: r) = [] ∨ ∃ r', (if c then [] else w :: r) = w :: r' := by
  split
  · exact .inl rfl
  · exact .inr ⟨_, rfl⟩
theorem hd9 (q : Qr) : Hd [wFails] (sec9 q) := by
  have := Hd.sec (w := wFails) (s := sec9 q) (ks := []) (ws := []) (.inl rfl) opt_sec
  rwa [List.append_nil] at this
theorem hd8 (q : Qr) : Hd [wDport, wFails] (R8 q) := (hd9 q).sec opt_sec
theorem hd7 (q : Qr) : Hd [wSport, wDport, wFails] (R7 q) := (hd8 q).sec opt_sec
theorem hd6 (q : Qr) : Hd [wProto, wSport, wDport, wFails] (R6 q) := (hd7 q).sec opt_sec
theorem hd5 (q : Qr) : Hd [wDst, wProto, wSport, wDport, wFails] (R5 q) := (hd6 q).sec opt_sec
theorem hd4 (q : Qr) : Hd [wSrc, wDst, wProto, wSport, wDport, wFails] (R4 q) := (hd5 q).sec opt_sec
theorem hd3 (q : Qr) : Hd [wVia, wLeft, wSrc, wDst, wProto, wSport, wDport, wFails] (R3 q) := by
  unfold R3 sec3
  split
  · exact .inr ⟨_, _, rfl, by decide⟩
  · split
    · exact .inr ⟨_, _, rfl, by decide⟩
    · exact (hd4 q).more (by decide)
theorem hd2 (q : Qr) : Hd [wTo, wVia, wLeft, wSrc, wDst, wProto, wSport, wDport, wFails] (R2 q) := by
  unfold R2 sec2
  split
  · unfold plW
    split
    · exact .inr ⟨_, _, rfl, by decide⟩
    · exact .inr ⟨_, _, rfl, by decide⟩
  · exact (hd3 q).more (by decide)
theorem acc_hit (w : List UInt8) (r : List (List UInt8)) : accB w ⟨w :: r, false⟩ = true := by show (w == w) = true; simp
theorem accS_hit (w : List UInt8) (r : List (List UInt8)) : accS w ⟨w :: r, false⟩ = ⟨r, false⟩ := by unfold accS; rw [acc_hit]; rfl
theorem expS_hit (w : List UInt8) (r : List (List UInt8)) : expS w ⟨w :: r, false⟩ = ⟨r, false⟩ := by unfold expS; rw [acc_hit]; rfl
theorem pl_back {r i : List UInt8} {ws : List (List UInt8)} (w : List UInt8) {ks : List (List UInt8)} (h : Hd ks ws) (hk : wIface ∉ ks) :
    plcR (expS w ⟨plW w r i ++ ws, false⟩) = r ∧ plcI (expS w ⟨plW w r i ++ ws, false⟩) = i ∧ plcS (expS w ⟨plW w r i ++ ws, false⟩) = ⟨ws, false⟩ := by
  unfold plW
  cases i with
  | nil =>
    simp only [List.isEmpty_nil, if_true, List.cons_append, List.nil_append]
    rw [expS_hit]
    unfold plcR plcI plcS nxtV nxtS
    dsimp only
    rw [h.acc hk]
    exact ⟨rfl, rfl, rfl⟩
  | cons c k =>
    simp only [List.isEmpty_cons, Bool.false_eq_true, if_false, List.cons_append, List.nil_append]
    rw [expS_hit]
    unfold plcR plcI plcS nxtV nxtS
    dsimp only
    rw [acc_hit, accS_hit]
    exact ⟨rfl, rfl, rfl⟩
theorem pfx_next {p : Nat} {n : Int} (hp : p < 4294967296) (h : validP p n = true) (ws : List (List UInt8)) : pfxV ⟨pfxF p n :: ws, false⟩ = (p, n) ∧ pfxS ⟨pfxF p n :: ws, false⟩ = ⟨ws, false⟩ := by
  unfold pfxV pfxS nxtV nxtS
  dsimp only
  rw [pfx_back hp h]
  exact ⟨rfl, rfl⟩
theorem num_next {n : Int} (h0 : 0 ≤ n) (h1 : n ≤ 65535) (ws : List (List UInt8)) : numVP ⟨dec n.toNat :: ws, false⟩ = n ∧ numS ⟨dec n.toNat :: ws, false⟩ = ⟨ws, false⟩ := by
  unfold numVP numS nxtV nxtS
  dsimp only
  rw [numIn_dec (by omega) (by omega)]
  exact ⟨by simp [numV]; omega, rfl⟩
theorem port_back {w : List UInt8} {lo hi : Int} (h0 : 0 ≤ lo) (h1 : lo ≤ hi) (h2 : hi ≤ 65535) {ks ws : List (List UInt8)} (h : Hd ks ws) (hw : w ∉ ks) :
    portV w ⟨secP w lo hi ++ ws, false⟩ = (lo, hi) ∧ portS w ⟨secP w lo hi ++ ws, false⟩ = ⟨ws, false⟩ := by
  unfold secP portV portS
  by_cases hz : lo = 0 ∧ hi = 65535
  · rw [if_pos hz, List.nil_append, h.acc hw]
    obtain ⟨rfl, rfl⟩ := hz
    exact ⟨rfl, rfl⟩
  · rw [if_neg hz]
    simp only [List.cons_append, List.nil_append]
    rw [acc_hit, accS_hit, if_pos rfl, if_pos rfl, (num_next h0 (by omega) _).1, (num_next h0 (by omega) _).2, (num_next (by omega) h2 _).1, (num_next (by omega) h2 _).2]
    exact ⟨rfl, rfl⟩
theorem query_back {q : Qr} (h : Okq q) (hq : q.fit) : queryOf ⟨kindT q.kind :: R1 q, false⟩ = (q, ⟨[], false⟩) := by
  obtain ⟨-, hk⟩ := ok_kind h.k1 h.k2
  have hk0 : q.kind ≠ 0 := by have := h.k1; omega
  have e1 : stKind ⟨kindT q.kind :: R1 q, false⟩ = ({ Qr.zero with kind := q.kind }, ⟨R1 q, false⟩) := by
    unfold stKind nxtV nxtS
    dsimp only
    rw [hk, if_neg hk0]
  have e2 : stFrom ({ Qr.zero with kind := q.kind }, ⟨R1 q, false⟩) = ({ Qr.zero with kind := q.kind, fr := q.fr, fi := q.fi }, ⟨R2 q, false⟩) := by
    obtain ⟨a1, a2, a3⟩ := pl_back (r := q.fr) (i := q.fi) wFrom (hd2 q) (by decide)
    unfold stFrom R1
    dsimp only
    rw [a1, a2, a3]
  have e3 : stTo ({ Qr.zero with kind := q.kind, fr := q.fr, fi := q.fi }, ⟨R2 q, false⟩) = ({ Qr.zero with kind := q.kind, fr := q.fr, fi := q.fi, tr := q.tr, ti := q.ti }, ⟨R3 q, false⟩) := by
    unfold stTo R2 sec2
    dsimp only
    cases ha : aimedB q.kind with
    | true =>
      obtain ⟨a1, a2, a3⟩ := pl_back (r := q.tr) (i := q.ti) wTo (hd3 q) (by decide)
      rw [if_pos rfl, if_pos rfl, a1, a2, a3]
    | false =>
      obtain ⟨a1, a2⟩ := h.noaim ha
      rw [if_neg (by simp), if_neg (by simp), a1, a2]
      rfl
  have e4 : stEq (stVia ({ Qr.zero with kind := q.kind, fr := q.fr, fi := q.fi, tr := q.tr, ti := q.ti }, ⟨R3 q, false⟩)) = ({ Qr.zero with kind := q.kind, fr := q.fr, fi := q.fi, tr := q.tr, ti := q.ti, via := q.via, la := q.la, ll := q.ll, ra := q.ra, rl := q.rl }, ⟨R4 q, false⟩) := by
    unfold R3 sec3
    by_cases h3 : q.kind = 3
    · have h6 : q.kind ≠ 6 := by omega
      obtain ⟨⟨a1, a2⟩, a3, a4⟩ := h.noeq h6
      unfold stVia
      dsimp only
      rw [if_pos h3, if_pos h3, List.cons_append, expS_hit]
      unfold stEq
      dsimp only
      rw [if_neg h6, a1, a2, a3, a4]
      rfl
    · have hv := h.novia h3
      unfold stVia
      dsimp only
      rw [if_neg h3, if_neg h3, hv]
      unfold stEq
      dsimp only
      by_cases h6 : q.kind = 6
      · obtain ⟨a1, a2, a3⟩ := h.eq h6
        rw [if_pos h6, if_pos h6]
        simp only [List.cons_append, List.nil_append]
        rw [expS_hit, (pfx_next hq.1 a1 _).1, (pfx_next hq.1 a1 _).2, expS_hit, (pfx_next hq.2.1 a2 _).1, (pfx_next hq.2.1 a2 _).2]
        rfl
      · obtain ⟨⟨a1, a2⟩, a3, a4⟩ := h.noeq h6
        rw [if_neg h6, if_neg h6, a1, a2, a3, a4]
        rfl
  have e5 : stSrc ({ Qr.zero with kind := q.kind, fr := q.fr, fi := q.fi, tr := q.tr, ti := q.ti, via := q.via, la := q.la, ll := q.ll, ra := q.ra, rl := q.rl }, ⟨R4 q, false⟩) = ({ Qr.zero with kind := q.kind, fr := q.fr, fi := q.fi, tr := q.tr, ti := q.ti, via := q.via, la := q.la, ll := q.ll, ra := q.ra, rl := q.rl, sa := q.sa, sl := q.sl }, ⟨R5 q, false⟩) := by
    unfold stSrc R4 sec4
    dsimp only
    cases hz : zeroP q.sa q.sl with
    | true =>
      rw [if_pos rfl, List.nil_append, (hd5 q).acc (by decide)]
      have : q.sa = 0 ∧ q.sl = 0 := by simpa [zeroP] using hz
      rw [this.1, this.2]
      rfl
    | false =>
      rw [if_neg (show ¬ (false : Bool) = true by simp)]
      simp only [List.cons_append, List.nil_append]
      rw [acc_hit, accS_hit, if_pos rfl, (pfx_next hq.2.2.1 h.vs _).1, (pfx_next hq.2.2.1 h.vs _).2]
  have e6 : stDst ({ Qr.zero with kind := q.kind, fr := q.fr, fi := q.fi, tr := q.tr, ti := q.ti, via := q.via, la := q.la, ll := q.ll, ra := q.ra, rl := q.rl, sa := q.sa, sl := q.sl }, ⟨R5 q, false⟩) = ({ Qr.zero with kind := q.kind, fr := q.fr, fi := q.fi, tr := q.tr, ti := q.ti, via := q.via, la := q.la, ll := q.ll, ra := q.ra, rl := q.rl, sa := q.sa, sl := q.sl, da := q.da, dl := q.dl }, ⟨R6 q, false⟩) := by
    unfold stDst R5 sec5
    dsimp only
    cases hz : zeroP q.da q.dl with
    | true =>
      rw [if_pos rfl, List.nil_append, (hd6 q).acc (by decide)]
      have : q.da = 0 ∧ q.dl = 0 := by simpa [zeroP] using hz
      rw [this.1, this.2]
      rfl
    | false =>
      rw [if_neg (show ¬ (false : Bool) = true by simp)]
      simp only [List.cons_append, List.nil_append]
      rw [acc_hit, accS_hit, if_pos rfl, (pfx_next hq.2.2.2 h.vd _).1, (pfx_next hq.2.2.2 h.vd _).2]
  have e7 : stProto ({ Qr.zero with kind := q.kind, fr := q.fr, fi := q.fi, tr := q.tr, ti := q.ti, via := q.via, la := q.la, ll := q.ll, ra := q.ra, rl := q.rl, sa := q.sa, sl := q.sl, da := q.da, dl := q.dl }, ⟨R6 q, false⟩) = ({ Qr.zero with kind := q.kind, fr := q.fr, fi := q.fi, tr := q.tr, ti := q.ti, via := q.via, la := q.la, ll := q.ll, ra := q.ra, rl := q.rl, sa := q.sa, sl := q.sl, da := q.da, dl := q.dl, proto := q.proto }, ⟨R7 q, false⟩) := by
    unfold stProto R6 sec6
    dsimp only
    by_cases hz : q.proto = -1
    · rw [if_pos hz, List.nil_append, (hd7 q).acc (by decide), hz]
      rfl
    · rw [if_neg hz]
      simp only [List.cons_append, List.nil_append]
      have := h.p1
      have := h.p2
      rw [acc_hit, accS_hit, if_pos rfl, (num_next (by omega) (by omega) _).1, (num_next (by omega) (by omega) _).2]
  have e8 : stSport ({ Qr.zero with kind := q.kind, fr := q.fr, fi := q.fi, tr := q.tr, ti := q.ti, via := q.via, la := q.la, ll := q.ll, ra := q.ra, rl := q.rl, sa := q.sa, sl := q.sl, da := q.da, dl := q.dl, proto := q.proto }, ⟨R7 q, false⟩) = ({ Qr.zero with kind := q.kind, fr := q.fr, fi := q.fi, tr := q.tr, ti := q.ti, via := q.via, la := q.la, ll := q.ll, ra := q.ra, rl := q.rl, sa := q.sa, sl := q.sl, da := q.da, dl := q.dl, proto := q.proto, slo := q.slo, shi := q.shi }, ⟨R8 q, false⟩) := by
    obtain ⟨a1, a2⟩ := port_back (w := wSport) h.s1 h.s2 h.s3 (hd8 q) (by decide)
    unfold stSport R7
    dsimp only
    rw [a1, a2]
  have e9 : stDport ({ Qr.zero with kind := q.kind, fr := q.fr, fi := q.fi, tr := q.tr, ti := q.ti, via := q.via, la := q.la, ll := q.ll, ra := q.ra, rl := q.rl, sa := q.sa, sl := q.sl, da := q.da, dl := q.dl, proto := q.proto, slo := q.slo, shi := q.shi }, ⟨R8 q, false⟩) = ({ q with fails := 0 }, ⟨sec9 q, false⟩) := by
    obtain ⟨a1, a2⟩ := port_back (w := wDport) h.d1 h.d2 h.d3 (hd9 q) (by decide)
    unfold stDport R8
    dsimp only
    rw [a1, a2]
    rfl
  have e10 : stFails ({ q with fails := 0 }, ⟨sec9 q, false⟩) = (q, ⟨[], false⟩) := by
    unfold stFails sec9
    dsimp only
    by_cases hz : q.fails = 0
    · rw [if_pos hz, ← hz]
      rfl
    · rw [if_neg hz]
      have := h.f1
      have := h.f2
      rw [acc_hit, accS_hit, if_pos rfl, (num_next (by omega) (by omega) _).1, (num_next (by omega) (by omega) _).2]
  unfold queryOf
  rw [e1, e2, e3, e4, e5, e6, e7, e8, e9, e10]
theorem fmt_bytes_ok {q : Qr} (h : Okq q) : ∀ b ∈ fm8 q, 32 ≤ b.toNat ∧ b.toNat ≤ 126 := by
  rw [fmt_spw]; exact spw_bytes (ok_kind h.k1 h.k2).1 (okA_R h)
theorem fmt_fields {q : Qr} (h : Okq q) : fieldsOf 35 (fm8 q) = kindT q.kind :: R1 q := by
  rw [fmt_spw]; exact fields_text (ok_kind h.k1 h.k2).1 (okA_R h)
theorem fmt_lines {q : Qr} (h : Okq q) : linesErr (fm8 q) = 0 := by
  unfold linesErr
  have := fm8_len h
  rw [if_neg (by omega), if_pos]
  unfold validAll
  rw [List.all_eq_true]
  intro b hb
  have := fmt_bytes_ok h b hb
  unfold validC
  simp only [Bool.or_eq_true, Bool.and_eq_true, decide_eq_true_eq]
  omega
theorem fmt_feed {q : Qr} (h : Okq q) : (10 : UInt8) ∉ fm8 q := fun hb => by
  have := fmt_bytes_ok h _ hb
  exact absurd this.1 (by decide)
/-- A valid query is read as it was written. -/
theorem read_back {q : Qr} (hv : validE q = 0) (hq : q.fit) : parseE (fmtQ q) = 0 ∧ parseQ (fmtQ q) = q := by
  have h := okq hv
  have e : fmtQ q = fm8 q := by unfold fmtQ; rw [if_pos hv]
  have hx : queryOf ⟨fieldsOf 35 (fm8 q), false⟩ = (q, ⟨[], false⟩) := by rw [fmt_fields h]; exact query_back h hq
  have h1 : parseE (fm8 q) = 0 := by
    rw [parseE_rest (fmt_lines h) (fmt_feed h) hx]
    exact hv
  rw [e]
  exact ⟨h1, parseQ_ok h1 hx⟩
end Go.Proofs.YtnhemjdmleilcaaDoor
