/- The walk of the law ScanSpaced. No condition. -/
import Derived.Test.YtiakkcipbpbkbaaLawD
import Derived.Test.YtiakkcipbpbkbaaLawC
namespace Go.Proofs.Ytiakkcipbpbkbaa
open Go.RowKit

/-- What is written behind a word. -/
def gapOf (g : Int) : List UInt8 := if g % 4 = 0 then [32] else if g % 4 = 1 then [9] else if g % 4 = 2 then [10] else [32, 35, 32, 123, 32, 120, 32, 59, 10]
def spaced : List (List UInt8) → List Int → List UInt8
  | x :: xs, g :: gs => x ++ gapOf g ++ spaced xs gs
  | _, _ => []
def lineBy (n g : Int) : Int := if 1 < g % 4 then n + 1 else n
def expect : Int → List (List UInt8) → List Int → List (Int × List UInt8)
  | n, x :: xs, g :: gs => (n, x) :: expect (lineBy n g) xs gs
  | _, _, _ => []
/-- A word that ScanSpaced takes. -/
def spWord (x : List UInt8) : Bool := decide (x = [123]) || decide (x = [125]) || decide (x = [59]) || nameB x

def wordAll (l : List UInt8) : Bool := l.all fun b => wordB b.toNat
theorem name_word {c : Int} (h : nameC c = true) : wordB c = true ∧ validC c = true ∧ c ≠ 10 := by
  simp only [nameC, letterB, digitB, wordB, blankB, markB, validC, Bool.or_eq_true, Bool.and_eq_true, decide_eq_true_eq, beq_iff_eq, Bool.not_eq_true', Bool.or_eq_false_iff, beq_eq_false_iff_ne] at h ⊢
  omega
theorem letter_nameC {c : Int} (h : letterB c = true) : nameC c = true := by simp [nameC, h]
theorem tok_run (r : List UInt8) : ∀ (x cur : List UInt8), wordAll x = true → tokGo cur (x ++ r) = tokGo (cur ++ x) r := by
  intro x
  induction x with
  | nil => intro cur _; simp
  | cons b t ih =>
    intro cur h
    simp only [wordAll, List.all_cons, Bool.and_eq_true] at h
    have h1 := h.1
    simp only [wordB, Bool.and_eq_true, Bool.not_eq_true', beq_eq_false_iff_ne] at h1
    rw [List.cons_append, tokGo, if_neg h1.2, if_neg (by simp [h1.1.1]), if_neg (by simp [h1.1.2]), ih _ h.2]
    simp
theorem name_all {x : List UInt8} (h : nameB x = true) : x ≠ [] ∧ x.length ≤ 15 ∧ ∀ b ∈ x, nameC b.toNat = true := by
  cases x with
  | nil => cases h
  | cons c r =>
    simp only [nameB, Bool.and_eq_true, decide_eq_true_eq] at h
    refine ⟨by simp, by simp; omega, ?_⟩
    intro b hb
    rcases List.mem_cons.1 hb with rfl | hb
    · exact letter_nameC h.1.2
    · have := h.2
      simp only [nameRest, List.all_eq_true] at this
      exact this b hb
theorem wordAll_name {x : List UInt8} (h : nameB x = true) : wordAll x = true := by
  unfold wordAll
  rw [List.all_eq_true]
  exact fun b hb => (name_word ((name_all h).2.2 b hb)).1
/-- A word is one token, whatever blank, comment or end follows. -/
theorem sp_tok {x : List UInt8} (h : spWord x = true) : tokGo [] x = [x] ∧ ∀ (b : UInt8) (r : List UInt8), blankB b.toNat = true → (b.toNat : Int) ≠ 35 → tokGo [] (x ++ b :: r) = x :: tokGo [] r := by
  simp only [spWord, Bool.or_eq_true, decide_eq_true_eq] at h
  rcases h with ((rfl | rfl) | rfl) | h
  · exact ⟨by decide, fun b r hb hn => by rw [List.singleton_append, tokGo, if_neg (by decide), if_neg (by decide), if_pos (by decide), tokGo, if_neg hn, if_pos hb]; rfl⟩
  · exact ⟨by decide, fun b r hb hn => by rw [List.singleton_append, tokGo, if_neg (by decide), if_neg (by decide), if_pos (by decide), tokGo, if_neg hn, if_pos hb]; rfl⟩
  · exact ⟨by decide, fun b r hb hn => by rw [List.singleton_append, tokGo, if_neg (by decide), if_neg (by decide), if_pos (by decide), tokGo, if_neg hn, if_pos hb]; rfl⟩
  · have hw := wordAll_name h
    have hne := (name_all h).1
    refine ⟨?_, fun b r hb hn => ?_⟩
    · have := tok_run [] x [] hw
      rw [List.append_nil, List.nil_append] at this
      rw [this, tokGo, flush, if_neg hne]
    · rw [tok_run _ x [] hw, List.nil_append, tokGo, if_neg hn, if_pos hb, flush, if_neg hne]; rfl
theorem sp_facts {x : List UInt8} (h : spWord x = true) : x.length ≤ 15 ∧ validAll x = true ∧ ∀ b ∈ x, (b.toNat : Int) ≠ 10 := by
  simp only [spWord, Bool.or_eq_true, decide_eq_true_eq] at h
  rcases h with ((rfl | rfl) | rfl) | h
  · decide
  · decide
  · decide
  · obtain ⟨_, h1, h2⟩ := name_all h
    refine ⟨h1, ?_, fun b hb => (name_word (h2 b hb)).2.2⟩
    unfold validAll
    rw [List.all_eq_true]
    exact fun b hb => (name_word (h2 b hb)).2.1
theorem lines_run (r : List UInt8) : ∀ (x cur : List UInt8), (∀ b ∈ x, (b.toNat : Int) ≠ 10) → linesGo cur (x ++ r) = linesGo (cur ++ x) r := by
  intro x
  induction x with
  | nil => intro cur _; simp
  | cons b t ih =>
    intro cur h
    rw [List.cons_append, linesGo, if_neg (h b (by simp)), ih _ (fun y hy => h y (by simp [hy]))]
    simp
theorem toks_spaced : ∀ (xs : List (List UInt8)) (gs : List Int) (n : Int) (cur : List UInt8) (tk : List (List UInt8)), xs.length ≤ gs.length → (∀ x ∈ xs, spWord x = true) → (∀ r, tokGo [] (cur ++ r) = tk ++ tokGo [] r) →
    toksFrom n (linesGo cur (spaced xs gs)) = tk.map (fun t => (n, t)) ++ expect n xs gs := by
  intro xs
  induction xs with
  | nil =>
    intro gs n cur tk _ _ hc
    have h0 := hc []
    have e : spaced [] gs = [] := by cases gs <;> rfl
    have e2 : expect n [] gs = [] := by cases gs <;> rfl
    rw [e, e2, linesGo, flush]
    rw [List.append_nil, show tokGo [] [] = [] from rfl, List.append_nil] at h0
    by_cases hcur : cur = []
    · subst hcur
      rw [show tokGo [] [] = [] from rfl] at h0
      subst h0
      rfl
    · rw [if_neg hcur]
      simp [toksFrom, tokLine, h0]
  | cons x xs ih =>
    intro gs n cur tk hl hx hc
    cases gs with
    | nil => simp at hl
    | cons g gs =>
      have hw := hx x (by simp)
      obtain ⟨t1, t2⟩ := sp_tok hw
      obtain ⟨_, _, f3⟩ := sp_facts hw
      have ih' := fun n cur tk => ih gs n cur tk (by simpa using hl) (fun y hy => hx y (by simp [hy]))
      simp only [spaced, expect]
      by_cases h0 : g % 4 = 0
      · have eg : gapOf g = [32] := by simp [gapOf, h0]
        have el : lineBy n g = n := by simp [lineBy, h0]
        rw [eg, el, List.append_assoc, lines_run _ x cur f3, List.singleton_append, linesGo, if_neg (by decide), ih' n (cur ++ x ++ [32]) (tk ++ [x])]
        · simp
        · intro r
          rw [List.append_assoc, List.append_assoc, hc, List.singleton_append, t2 32 r (by decide) (by decide)]; simp
      by_cases h1 : g % 4 = 1
      · have eg : gapOf g = [9] := by simp [gapOf, h1]
        have el : lineBy n g = n := by simp [lineBy, h1]
        rw [eg, el, List.append_assoc, lines_run _ x cur f3, List.singleton_append, linesGo, if_neg (by decide), ih' n (cur ++ x ++ [9]) (tk ++ [x])]
        · simp
        · intro r
          rw [List.append_assoc, List.append_assoc, hc, List.singleton_append, t2 9 r (by decide) (by decide)]; simp
      have el : lineBy n g = n + 1 := by unfold lineBy; rw [if_pos (by omega)]
      by_cases h2 : g % 4 = 2
      · have eg : gapOf g = [10] := by simp [gapOf, h2]
        rw [eg, el, List.append_assoc, lines_run _ x cur f3, List.singleton_append, linesGo, if_pos (by decide), toksFrom, ih' (n + 1) [] [] (fun r => rfl)]
        have := hc x
        rw [t1] at this
        simp [tokLine, this]
      · have eg : gapOf g = [32, 35, 32, 123, 32, 120, 32, 59] ++ [10] := by simp [gapOf, h0, h1, h2]
        have e1 : x ++ ([32, 35, 32, 123, 32, 120, 32, 59] ++ [10]) ++ spaced xs gs = x ++ ([32, 35, 32, 123, 32, 120, 32, 59] ++ 10 :: spaced xs gs) := by simp
        rw [eg, el, e1, lines_run _ x cur f3, lines_run _ [32, 35, 32, 123, 32, 120, 32, 59] _ (by decide), linesGo, if_pos (by decide), toksFrom, ih' (n + 1) [] [] (fun r => rfl)]
        have h3 := hc (x ++ [32, 35, 32, 123, 32, 120, 32, 59])
        rw [t2 32 [35, 32, 123, 32, 120, 32, 59] (by decide) (by decide)] at h3
        rw [show tokGo [] [35, 32, 123, 32, 120, 32, 59] = [] from by decide] at h3
        simp [tokLine, h3]
theorem toks_spaced1 (xs : List (List UInt8)) (gs : List Int) (hl : xs.length ≤ gs.length) (hx : ∀ x ∈ xs, spWord x = true) : toksOf (spaced xs gs) = expect 1 xs gs := by
  have := toks_spaced xs gs 1 [] [] hl hx (fun r => rfl)
  simpa [toksOf, linesOf] using this
theorem gap_facts (g : Int) : (gapOf g).length ≤ 9 ∧ validAll (gapOf g) = true := by
  unfold gapOf
  split
  · decide
  · split
    · decide
    · split <;> decide
theorem spaced_facts : ∀ (xs : List (List UInt8)) (gs : List Int), (∀ x ∈ xs, spWord x = true) → (spaced xs gs).length ≤ 24 * xs.length ∧ validAll (spaced xs gs) = true := by
  intro xs
  induction xs with
  | nil => intro gs _; cases gs <;> exact ⟨by simp [spaced], rfl⟩
  | cons x xs ih =>
    intro gs h
    cases gs with
    | nil => exact ⟨by simp [spaced], rfl⟩
    | cons g gs =>
      obtain ⟨h1, h2⟩ := ih gs (fun y hy => h y (by simp [hy]))
      obtain ⟨f1, f2, _⟩ := sp_facts (h x (by simp))
      obtain ⟨g1, g2⟩ := gap_facts g
      simp only [spaced, valid_app, List.length_append, List.length_cons]
      exact ⟨by omega, by simp [h2, f2, g2]⟩
theorem spaced_snoc : ∀ (xs : List (List UInt8)) (gs : List Int) (x : List UInt8) (g : Int), xs.length = gs.length → spaced (xs ++ [x]) (gs ++ [g]) = spaced xs gs ++ x ++ gapOf g := by
  intro xs
  induction xs with
  | nil =>
    intro gs x g h
    cases gs with
    | nil => simp [spaced]
    | cons => simp at h
  | cons y ys ih =>
    intro gs x g h
    cases gs with
    | nil => simp at h
    | cons k ks => simp [spaced, ih ks x g (by simpa using h)]
theorem expect_len : ∀ (xs : List (List UInt8)) (gs : List Int) (n : Int), xs.length ≤ gs.length → (expect n xs gs).length = xs.length := by
  intro xs
  induction xs with
  | nil => intro gs n _; cases gs <;> rfl
  | cons x xs ih =>
    intro gs n h
    cases gs with
    | nil => simp at h
    | cons g gs => simp [expect, ih gs _ (by simpa using h)]
theorem toList_b (s : ByteArray) : s.toList = bytes s := Go.ByteArray.toList_eq s
theorem sp_no {s : ByteArray} (h : spWord (bytes s) = false) : (s.toList == [123]) = false ∧ (s.toList == [125]) = false ∧ (s.toList == [59]) = false ∧ nameB (bytes s) = false := by
  simp only [spWord, Bool.or_eq_false_iff, decide_eq_false_iff_not] at h
  rw [toList_b]
  exact ⟨by simpa using h.1.1.1, by simpa using h.1.1.2, by simpa using h.1.2, h.2⟩
theorem sp_yes {s : ByteArray} (h : spWord (bytes s) = true) : (s.toList == [123]) = true ∨ ((s.toList == [123]) = false ∧ (s.toList == [125]) = true) ∨ ((s.toList == [123]) = false ∧ (s.toList == [125]) = false ∧ (s.toList == [59]) = true) ∨
    ((s.toList == [123]) = false ∧ (s.toList == [125]) = false ∧ (s.toList == [59]) = false ∧ nameB (bytes s) = true) := by
  rw [toList_b]
  cases h1 : (bytes s == [123]) with
  | true => exact .inl rfl
  | false =>
    cases h2 : (bytes s == [125]) with
    | true => exact .inr (.inl ⟨rfl, rfl⟩)
    | false =>
      cases h3 : (bytes s == [59]) with
      | true => exact .inr (.inr (.inl ⟨rfl, rfl, rfl⟩))
      | false =>
        refine .inr (.inr (.inr ⟨rfl, rfl, rfl, ?_⟩))
        simp only [beq_eq_false_iff_ne] at h1 h2 h3
        simpa [spWord, h1, h2, h3] using h
theorem expect_step {xs : List (List UInt8)} {gs : List Int} {k : Nat} {n ln : Int} (hx : k < xs.length) (hg : k < gs.length) (he : k < (expect n xs gs).length) (h : (expect n xs gs).drop k = expect ln (xs.drop k) (gs.drop k)) :
    (expect n xs gs)[k] = (ln, xs[k]) ∧ (expect n xs gs).drop (k + 1) = expect (lineBy ln gs[k]) (xs.drop (k + 1)) (gs.drop (k + 1)) := by
  rw [list_step _ k he, list_step xs k hx, list_step gs k hg, expect] at h
  injection h with h1 h2
  exact ⟨h1, h2⟩
theorem spWord_of {s : ByteArray} (h : (bytes s = [123] ∨ bytes s = [125] ∨ bytes s = [59]) ∨ nameB (bytes s) = true) : spWord (bytes s) = true := by
  simp only [spWord, Bool.or_eq_true, decide_eq_true_eq]
  rcases h with (h | h | h) | h
  · exact .inl (.inl (.inl h))
  · exact .inl (.inl (.inr h))
  · exact .inl (.inr h)
  · exact .inr h
theorem spaced_step {xs : List (List UInt8)} {gs : List Int} {k : Nat} (hk : k < xs.length) (hg : k < gs.length) :
    spaced (xs.take (k + 1)) (gs.take (k + 1)) = spaced (xs.take k) (gs.take k) ++ xs[k] ++ gapOf gs[k] := by
  rw [take_snoc xs k hk, take_snoc gs k hg, spaced_snoc _ _ _ _ (by simp; omega)]
theorem sp_snoc {xs : List (List UInt8)} {k : Nat} (hk : k < xs.length) (h : ∀ y ∈ xs.take k, spWord y = true) (hx : spWord xs[k] = true) : ∀ y ∈ xs.take (k + 1), spWord y = true := by
  rw [take_snoc xs k hk]
  intro y hy
  rcases List.mem_append.1 hy with h1 | h1
  · exact h y h1
  · obtain rfl : y = xs[k] := by simpa using h1
    exact hx
theorem slc_int {w : World} {B : Nat} {A : Option Addr} {n c : Nat} {xs : List Int} {K : IntKind} (h : Slc w B 1 (.slice A n c) n (xs.map (Value.int K))) (hn : n = xs.length) {k : Nat} (hk : k < xs.length) :
    ∃ g o, A = some ⟨g, o, none⟩ ∧ g < B ∧ w.cell? ⟨g, o + k, none⟩ = some (.int K xs[k]) := by
  obtain ⟨A', c', e, _, _, _, h⟩ := h
  injection e with e1 e2 e3
  subst e1
  obtain ⟨g, o, rfl, hg, hc⟩ := h (by omega)
  exact ⟨g, o, rfl, hg, hc k _ (by simp [hk])⟩
theorem gap_str (a x : List UInt8) (g : Int) (t : ByteArray) (ht : t = str (gapOf g)) : str a ++ str x ++ t = str (a ++ x ++ gapOf g) := by
  rw [ht, str_app, str_app]

set_option maxHeartbeats 4000000 in
set_option maxRecDepth 100000 in
theorem scanSpaced_walk (A : Option Addr) (len cap : Nat) (zs : List (List UInt8)) (B : Option Addr) (len2 cap2 : Nat) (gs : List Int) (w : World) (hS : StrsArg w A len cap zs) (hG : BytesArg w B len2 cap2 gs) :
    Calls Try.prog 12 #[.slice A len cap, .slice B len2 cap2] w fun e w' => e = .returned (.bool true) ∧ Below w.heap.size w w' := by
  obtain ⟨hs, hlen, _⟩ := hS
  obtain ⟨hg, hlen2, hgb⟩ := hG
  have HS := Lib.hid hs
  have HL := Lib.hid hlen
  have HG := Lib.hid hg
  have HL2 := Lib.hid hlen2
  have HB := Lib.hid hgb
  clear hs hlen hg hlen2 hgb
  by_cases h0 : 40 < len
  · go_enter Try.func12, Try.ntmps12
    go_wp2_with fail
    go_ret
    exact ⟨rfl, Below.refl _ _⟩
  have d0 : decide ((40 : Int) < len) = false := by simp; omega
  by_cases h1 : len2 < len
  · go_enter Try.func12, Try.ntmps12
    go_wp2_with fail
    go_ret
    exact ⟨rfl, Below.refl _ _⟩
  have d1 : decide (len2 < len) = false := by simp; omega
  go_enter Try.func12, Try.ntmps12
  go_wp2_with fail
  go_loopg [5, 6] len (fun g l i wr => ∃ k : Nat, k + g = len ∧ i = .int .i64 k ∧ l = .string (str (spaced (zs.take k) (gs.take k))) ∧ Hid (∀ y ∈ zs.take k, spWord y = true) ∧ Below w.heap.size w wr)
  case atStart => exact ⟨0, by omega, rfl, by rfl, Lib.hid (by simp), Below.refl _ _⟩
  case round =>
    obtain ⟨k, hk, rfl, rfl, H, hb⟩ := hrel
    have hsz := hb.size
    by_cases hlt : k < len
    · have hzl : k < zs.length := by rw [← HL.out]; exact hlt
      have hgl : k < gs.length := by rw [← HL2.out]; omega
      obtain ⟨ga, oa, eA, hga, c1⟩ := slc_at HS.out HL.out hzl
      obtain ⟨gb, ob, eB, hgb, c2⟩ := slc_int HG.out HL2.out hgl
      have T := Lib.hid (spaced_step hzl hgl)
      have HW := Lib.hid (sp_snoc hzl H.out)
      obtain ⟨b1, b2⟩ := HB.out _ (List.getElem_mem hgl)
      have hjl : (str (spaced (zs.take k) (gs.take k))).size ≤ 960 := by
        rw [str_size]
        have := (spaced_facts (zs.take k) (gs.take k) H.out).1
        rw [List.length_take] at this
        omega
      generalize zs[k] = z at c1 T HW
      generalize gs[k] = g at c2 T b1 b2
      unfold strV at c1
      obtain ⟨s, rfl⟩ : ∃ s : ByteArray, bytes s = z := ⟨str z, bytes_str z⟩
      rw [str_bytes] at c1
      have c1' : wr.cell? ⟨ga, oa + k, none⟩ = some (.string s) := (hb.cell (p := ⟨ga, oa + k, none⟩) hga).trans c1
      have c2' : wr.cell? ⟨gb, ob + k, none⟩ = some (.int .u8 g) := (hb.cell (p := ⟨gb, ob + k, none⟩) hgb).trans c2
      have c3 : ∀ o, (wr.alloc o).cell? ⟨gb, ob + k, none⟩ = some (.int .u8 g) := fun o => (World.cell?_alloc_lt wr o ⟨gb, ob + k, none⟩ (by show gb < _; omega)).trans c2'
      subst eA eB
      clear hzl hgl c1 c2
      generalize hj : spaced (zs.take k) (gs.take k) = jn at *
      clear hj
      cases hnm : spWord (bytes s) with
      | false =>
        obtain ⟨n1, n2, n3, n4⟩ := sp_no hnm
        go_wp2_with (first | (go_at_call 23; refine (rname_any _ _).mono ?_; rintro e w' ⟨rfl, rfl⟩))
        go_ret
        exact ⟨rfl, hb⟩
      | true =>
        have hsl : s.size ≤ 15 := by rw [← bytes_len]; exact (sp_facts hnm).1
        have HN := Lib.hid (HW.out hnm)
        have hg4 : g % 4 = 0 ∨ g % 4 = 1 ∨ g % 4 = 2 ∨ g % 4 = 3 := by omega
        rcases hg4 with hg | hg | hg | hg
        · have GE : Hid (str (gapOf g) = ⟨#[32]⟩) := Lib.hid (by simp [gapOf, hg, str])
          rcases sp_yes hnm with n1 | ⟨n1, n2⟩ | ⟨n1, n2, n3⟩ | ⟨n1, n2, n3, n4⟩
          all_goals
            go_wp2_with (first | (go_at_call 23; refine (rname_any _ _).mono ?_; rintro e w' ⟨rfl, rfl⟩))
            go_roundg (len - (k + 1))
            case measure => omega
            case rel => exact ⟨k + 1, by omega, by go_num, by rw [T.out, ← gap_str jn (bytes s) g _ rfl, GE.out, str_bytes], HN, hb.alloc hsz _⟩
        · have GE : Hid (str (gapOf g) = ⟨#[9]⟩) := Lib.hid (by simp [gapOf, hg, str])
          rcases sp_yes hnm with n1 | ⟨n1, n2⟩ | ⟨n1, n2, n3⟩ | ⟨n1, n2, n3, n4⟩
          all_goals
            go_wp2_with (first | (go_at_call 23; refine (rname_any _ _).mono ?_; rintro e w' ⟨rfl, rfl⟩))
            go_roundg (len - (k + 1))
            case measure => omega
            case rel => exact ⟨k + 1, by omega, by go_num, by rw [T.out, ← gap_str jn (bytes s) g _ rfl, GE.out, str_bytes], HN, hb.alloc hsz _⟩
        · have GE : Hid (str (gapOf g) = ⟨#[10]⟩) := Lib.hid (by simp [gapOf, hg, str])
          rcases sp_yes hnm with n1 | ⟨n1, n2⟩ | ⟨n1, n2, n3⟩ | ⟨n1, n2, n3, n4⟩
          all_goals
            go_wp2_with (first | (go_at_call 23; refine (rname_any _ _).mono ?_; rintro e w' ⟨rfl, rfl⟩))
            go_roundg (len - (k + 1))
            case measure => omega
            case rel => exact ⟨k + 1, by omega, by go_num, by rw [T.out, ← gap_str jn (bytes s) g _ rfl, GE.out, str_bytes], HN, hb.alloc hsz _⟩
        · have GE : Hid (str (gapOf g) = ⟨#[32, 35, 32, 123, 32, 120, 32, 59, 10]⟩) := Lib.hid (by simp [gapOf, hg, str])
          rcases sp_yes hnm with n1 | ⟨n1, n2⟩ | ⟨n1, n2, n3⟩ | ⟨n1, n2, n3, n4⟩
          all_goals
            go_wp2_with (first | (go_at_call 23; refine (rname_any _ _).mono ?_; rintro e w' ⟨rfl, rfl⟩))
            go_roundg (len - (k + 1))
            case measure => omega
            case rel => exact ⟨k + 1, by omega, by go_num, by rw [T.out, ← gap_str jn (bytes s) g _ rfl, GE.out, str_bytes], HN, hb.alloc hsz _⟩
    · have ek : zs.take k = zs := List.take_of_length_le (by rw [← HL.out]; omega)
      rw [ek] at H ⊢
      clear ek
      have hkl : k = len := by omega
      have TG : toksOf (spaced zs (gs.take k)) = expect 1 zs (gs.take k) := toks_spaced1 zs _ (by rw [← HL.out, List.length_take, ← HL2.out]; omega) H.out
      obtain ⟨F1, F2⟩ := spaced_facts zs (gs.take k) H.out
      have hl9 : (spaced zs (gs.take k)).length ≤ 960 := by rw [← HL.out] at F1; omega
      have hok := res_ok (l := spaced zs (gs.take k)) (by omega) F2
      have hex := expect_len zs (gs.take k) 1 (by rw [← HL.out, List.length_take, ← HL2.out]; omega)
      have HTK : Hid (tokRes (spaced zs (gs.take k)) = expect 1 zs (gs.take k)) := Lib.hid (by unfold tokRes; rw [if_pos hok.1, TG])
      have HOK := Lib.hid hok.1
      have HEX := Lib.hid hex
      clear TG F1 F2 hok hex
      have hgk : (gs.take k).length = len := by rw [List.length_take, ← HL2.out]; omega
      have HGK := Lib.hid hgk
      clear hgk
      have hgt : ∀ j (h : j < (gs.take k).length) (h2 : j < gs.length), (gs.take k)[j] = gs[j] := fun j h h2 => by simp
      have HGT := Lib.hid hgt
      clear hgt
      generalize gs.take k = gt at *
      generalize spaced zs gt = jn at *
      clear hkl
      go_wp2_with fail
      refine (tokens_any (str jn) _).mono ?_
      rintro e w1 ⟨v1, rfl, ho1, hb1⟩
      rw [bytes_str] at ho1 ⊢
      rw [HOK.out]
      rw [HTK.out, HEX.out, ← HL.out] at ho1
      have h1 := hb1.size
      obtain ⟨AT, ct, ev⟩ := slc_form (Slc.of_own ho1)
      subst ev
      have HT := Lib.hid (Slc.of_own ho1)
      clear ho1
      have hbw : Below w.heap.size w w1 := hb.trans (hb1.mono hsz)
      go_wp2_with fail
      go_loopg [11, 12] len (fun g l i wr => ∃ (k q : Nat) (ln : Int), k + g = len ∧ i = .int .i64 k ∧ l = .int .i64 ln ∧ 1 ≤ ln ∧ ln ≤ k + 1 ∧ wr = w1.drewN q ∧ Hid ((expect 1 zs gt).drop k = expect ln (zs.drop k) (gt.drop k)))
      case atStart => exact ⟨0, 0, 1, by omega, rfl, rfl, by omega, by omega, rfl, Lib.hid rfl⟩
      case round =>
        obtain ⟨k, q, ln, hk, rfl, rfl, hl1, hl2, ew, HX⟩ := hrel
        subst ew
        by_cases hlt : k < len
        · have hzl : k < zs.length := by rw [← HL.out]; exact hlt
          have hgl : k < gs.length := by rw [← HL2.out]; omega
          have hgt : k < gt.length := by rw [HGK.out]; exact hlt
          have hxl : k < (expect 1 zs gt).length := by rw [HEX.out]; exact hzl
          obtain ⟨X1, X2⟩ := expect_step hzl hgt hxl HX.out
          obtain ⟨ga, oa, eA, hga, c1⟩ := slc_at HS.out HL.out hzl
          obtain ⟨gb, ob, eB, hgb, c2⟩ := slc_int HG.out HL2.out hgl
          obtain ⟨gc, oc, eC, hgc, c3, c4⟩ := slc_tok HT.out (HL.out.trans HEX.out.symm) hxl
          obtain ⟨b1, b2⟩ := HB.out _ (List.getElem_mem hgl)
          rw [X1] at c3 c4
          rw [HGT.out k hgt hgl] at X2
          have HX2 := Lib.hid X2
          clear X1 X2 HX
          generalize zs[k] = z at c1 c4
          generalize gs[k] = g at c2 b1 b2 HX2
          unfold strV at c1 c4
          simp only at c3 c4
          have c1' : w1.cell? ⟨ga, oa + k, none⟩ = some (.string (str z)) := (hbw.cell (p := ⟨ga, oa + k, none⟩) hga).trans c1
          have c2' : w1.cell? ⟨gb, ob + k, none⟩ = some (.int .u8 g) := (hbw.cell (p := ⟨gb, ob + k, none⟩) hgb).trans c2
          subst eA eB eC
          clear hzl hgl hgt hxl c1 c2
          by_cases hg4 : 1 < g % 4
          · have HLB : Hid (lineBy ln g = ln + 1) := Lib.hid (by unfold lineBy; rw [if_pos hg4])
            go_wp2_with fail
            go_quiet (fail)
            go_wp2_with fail
            go_roundg (len - (k + 1))
            case measure => omega
            case rel => exact ⟨k + 1, q + nq, ln + 1, by omega, by go_num, rfl, by omega, by omega, by first | rfl | rw [World.drewN_drewN], Lib.hid (by rw [HX2.out, HLB.out])⟩
          · have HLB : Hid (lineBy ln g = ln) := Lib.hid (by unfold lineBy; rw [if_neg hg4])
            go_wp2_with fail
            go_quiet (fail)
            go_wp2_with fail
            go_roundg (len - (k + 1))
            case measure => omega
            case rel => exact ⟨k + 1, q + nq, ln, by omega, by go_num, rfl, by omega, by omega, by first | rfl | rw [World.drewN_drewN], Lib.hid (by rw [HX2.out, HLB.out])⟩
        · go_wp2_with fail
          refine (sane1_any _).mono ?_
          rintro e w4 ⟨rfl, hb4⟩
          go_wp2_with fail
          go_ret
          exact ⟨rfl, (hbw.trans ((drewN_below w1 q).mono (by omega))).trans (hb4.mono (by show w.heap.size ≤ w1.heap.size; omega))⟩
end Go.Proofs.Ytiakkcipbpbkbaa
