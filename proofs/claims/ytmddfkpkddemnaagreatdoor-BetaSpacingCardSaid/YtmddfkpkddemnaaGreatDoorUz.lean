/- The walk of the statements' sanity check, over any contract of Parse. Condition: Go's own tables lie in memory (EnvA). -/
import Derived.Test.YtmddfkpkddemnaaGreatDoorUu
import Derived.Test.YtmddfkpkddemnaaGreatDoorUy
import Derived.Test.YtmddfkpkddemnaaGreatDoorUr
import Derived.Test.YtmddfkpkddemnaaGreatDoorUw
import Derived.Test.YtmddfkpkddemnaaGreatDoorUx
import Derived.Test.YtmddfkpkddemnaaGreatDoorUm
import Derived.Test.YtmddfkpkddemnaaGreatDoorUn
import Derived.Test.YtmddfkpkddemnaaGreatDoorUe
import Derived.Test.YtmddfkpkddemnaaGreatDoorUf
import Derived.Deep.LoopGhost
namespace Go.Proofs.YtmddfkpkddemnaaGreatDoor
open Go.RowKit
/-- What parse makes of tokens of a text with so many lines: the line, the error, the router. chk: a router's fault. -/
def parseT (chk : Rt → Int) (lines : Int) (t : List Tk) : Int × Int × Rt := match seqN lines (2 * t.length + 2) false t [] with
  | .error l => (l, 2, rtN)
  | .ok a => match readN .top [] a.1 rtN with
    | (_, some (l, e)) => (l, e, rtN)
    | (r, none) => if chk r = 0 then (lines, 0, r) else (lines, chk r, rtN)
/-- What Parse makes of a text. -/
def parseB (chk : Rt → Int) (l : List UInt8) : Int × Int × Rt :=
  if linesErr l = 0 then parseT chk (linesOf l).length (toksOf l) else (0, linesErr l, rtN)
theorem parseT_txts (chk : Rt → Int) (la lb : Int) (a b : List Tk) (h : txts a = txts b) : (parseT chk la a).2 = (parseT chk lb b).2 := by
  have hl : a.length = b.length := by have := congrArg List.length h; simpa only [txts, List.length_map] using this
  have h1 := (sameRead la lb (2 * a.length + 2)).1 false a b [] [] h rfl
  simp only [parseT, ← hl]
  revert h1
  cases seqN la (2 * a.length + 2) false a [] with
  | error e => cases seqN lb (2 * a.length + 2) false b [] with
    | error e' => intro _; rfl
    | ok v => intro h; simp only [SameSeq] at h
  | ok u => cases seqN lb (2 * a.length + 2) false b [] with
    | error e' => intro h; simp only [SameSeq] at h
    | ok v =>
      intro h
      have h2 := readN_bare .top u.1 v.1 [] rtN h.1
      simp only
      revert h2
      match readN .top [] u.1 rtN, readN .top [] v.1 rtN with
      | (r, none), (r', none) => intro h2; simp only at h2; obtain ⟨rfl, _⟩ := h2; simp only; split <;> rfl
      | (r, none), (r', some e) => intro h2; simp only [errO, Option.map_none, Option.map_some] at h2; cases h2.2
      | (r, some e), (r', none) => intro h2; simp only [errO, Option.map_none, Option.map_some] at h2; cases h2.2
      | (r, some e), (r', some e') => intro h2; simp only [errO, Option.map_some, Option.some.injEq] at h2; simp only [h2.2]
/-- BetaSpacing's plain law. -/
theorem parseB_gaps (chk : Rt → Int) {l : List UInt8} (h : linesErr l = 0) (hl : l.length ≤ 4096) (gs : List Nat) :
    (parseB chk (joinG (txs (toksOf l)) gs)).2 = (parseB chk l).2 := by
  obtain ⟨h1, h2⟩ := toks_again h hl gs
  simp only [parseB, if_pos h, if_pos h1]
  exact parseT_txts chk _ _ _ _ h2
end Go.Proofs.YtmddfkpkddemnaaGreatDoor
namespace Go.Proofs.YtmddfkpkddemnaaGreatDoor
open Go.RowKit
/-- A token whose line is not negative and whose text is short. -/
def TkN (x : Tk) : Prop := 0 ≤ x.1 ∧ x.2.length ≤ 1000000000
mutual
def NdOk : Nd → Prop
  | .mk l w _ k => 0 ≤ l ∧ (∀ f ∈ w, f.length ≤ 1000000000) ∧ NdsOk k
def NdsOk : List Nd → Prop
  | [] => True
  | n :: ns => NdOk n ∧ NdsOk ns
end
theorem NdsOk.append : ∀ {a b : List Nd}, NdsOk a → NdsOk b → NdsOk (a ++ b)
  | [], _, _, h => h
  | x :: r, b, h, h' => by
    rw [NdsOk] at h
    rw [List.cons_append, NdsOk]
    exact ⟨h.1, NdsOk.append h.2 h'⟩
theorem sizeL_append : ∀ a b : List Nd, sizeL (a ++ b) = sizeL a + sizeL b
  | [], b => by rw [List.nil_append, sizeL, Nat.zero_add]
  | x :: r, b => by rw [List.cons_append, sizeL, sizeL, sizeL_append r b, Nat.add_assoc]
def SeqOk (t : List Tk) (ns : List Nd) : Except Int (List Nd × List Tk) → Prop
  | .error l => 0 ≤ l
  | .ok a => NdsOk a.1 ∧ (∀ x ∈ a.2, TkN x) ∧ sizeL a.1 + a.2.length ≤ sizeL ns + t.length
def NodOk (t : List Tk) : Except Int (Nd × List Tk) → Prop
  | .error l => 0 ≤ l
  | .ok a => NdOk a.1 ∧ (∀ x ∈ a.2, TkN x) ∧ a.1.size + a.2.length ≤ t.length
theorem seq_ok {lines : Int} (hl : 0 ≤ lines) : ∀ n, (∀ inner t ns, (∀ x ∈ t, TkN x) → NdsOk ns → SeqOk t ns (seqN lines n inner t ns)) ∧ (∀ at_ t ws, 0 ≤ at_ → (∀ x ∈ t, TkN x) → (∀ f ∈ ws, f.length ≤ 1000000000) → NodOk t (nodeN lines n at_ t ws)) := by
  intro n
  induction n with
  | zero => exact ⟨fun _ _ _ _ _ => by rw [seqN]; exact hl, fun _ _ _ _ _ _ => by rw [nodeN]; exact hl⟩
  | succ n ih =>
    refine ⟨fun inner t ns ht hn => ?_, fun at_ t ws ha ht hw => ?_⟩
    · cases t with
      | nil =>
        rw [seqN]
        split
        · exact hl
        · exact ⟨hn, fun _ h => (by cases h), Nat.le_refl _⟩
      | cons y t =>
        have hy := ht y List.mem_cons_self
        rw [seqN]
        split
        · exact ⟨hn, fun x hx => ht x (List.mem_cons_of_mem _ hx), by simp⟩
        · have h1 := ih.2 y.1 (y :: t) [] hy.1 ht (fun _ h => by cases h)
          revert h1
          cases nodeN lines n y.1 (y :: t) [] with
          | error l => exact fun h => h
          | ok a =>
            rintro ⟨h1, h2, h3⟩
            have h4 := ih.1 inner a.2 (ns ++ [a.1]) h2 (hn.append (by rw [NdsOk, NdsOk]; exact ⟨h1, trivial⟩))
            revert h4
            simp only
            cases seqN lines n inner a.2 (ns ++ [a.1]) with
            | error l => exact fun h => h
            | ok c =>
              rintro ⟨q1, q2, q3⟩
              rw [sizeL_append, sizeL, sizeL] at q3
              exact ⟨q1, q2, by omega⟩
    · cases t with
      | nil => rw [nodeN]; exact hl
      | cons y t =>
        have hy := ht y List.mem_cons_self
        have ht' : ∀ x ∈ t, TkN x := fun x hx => ht x (List.mem_cons_of_mem _ hx)
        rw [nodeN]
        split
        · have h1 := ih.2 at_ t (ws ++ [y.2]) ha ht' (fun f hf => (List.mem_append.1 hf).elim (hw f) (fun hf => by obtain rfl := List.mem_singleton.1 hf; exact hy.2))
          revert h1
          cases nodeN lines n at_ t (ws ++ [y.2]) with
          | error l => exact fun h => h
          | ok a => rintro ⟨q1, q2, q3⟩; exact ⟨q1, q2, by simp only [List.length_cons]; omega⟩
        · split
          · exact hy.1
          · split
            · exact ⟨by rw [NdOk, NdsOk]; exact ⟨ha, hw, trivial⟩, ht', by simp only [Nd.size, sizeL, List.length_cons]; omega⟩
            · have h1 := ih.1 true t [] ht' (by rw [NdsOk]; trivial)
              revert h1
              cases seqN lines n true t [] with
              | error l => exact fun h => h
              | ok a =>
                rintro ⟨q1, q2, q3⟩
                refine ⟨by rw [NdOk]; exact ⟨ha, hw, q1⟩, q2, ?_⟩
                simp only [Nd.size, sizeL, List.length_cons] at *
                omega
mutual
theorem readN_pos (f : Fm) : ∀ (ns : List Nd) (keys : List (List UInt8)) (r : Rt), NdsOk ns → ∀ e, (readN f keys ns r).2 = some e → 0 ≤ e.1
  | [], _, _, _, e, h => by simp [readN] at h
  | n :: ns, keys, r, hn, e, h => by
    rw [NdsOk] at hn
    have h1 := readOne_pos f n keys r hn.1
    simp only [readN] at h
    revert h1 h
    match readOne f keys n r with
    | (r', k', none) => intro h _; exact readN_pos f ns k' r' hn.2 e h
    | (r', k', some e') => intro h h1; simp only [Option.some.injEq] at h; subst h; exact h1 _ rfl
theorem readOne_pos (f : Fm) : ∀ (n : Nd) (keys : List (List UInt8)) (r : Rt), NdOk n → ∀ e, (readOne f keys n r).2.2 = some e → 0 ≤ e.1
  | .mk line words blk kids, keys, r, hn, e, h => by
    rw [NdOk] at hn
    simp only [readOne] at h
    revert h
    match fmS f blk r ⟨words, false⟩ with
    | (key, inner, r', p) =>
      simp only
      split
      · intro h; simp only [Option.some.injEq] at h; subst h; exact hn.1
      · split
        · intro h; simp only [Option.some.injEq] at h; subst h; exact hn.1
        · cases inner with
          | none => intro h; simp at h
          | some g => intro h; exact readN_pos g kids [] r' hn.2.2 e h
end
theorem tokGo_short : ∀ (l cur : List UInt8), ∀ x ∈ tokGo cur l, x.length ≤ cur.length + l.length := by
  intro l
  induction l with
  | nil =>
    intro cur x h
    unfold tokGo flush at h
    split at h
    · cases h
    · obtain rfl := List.mem_singleton.1 h; simp
  | cons b r ih =>
    intro cur x h
    have hf : ∀ x ∈ flush cur, x.length ≤ cur.length := fun x hx => by
      unfold flush at hx
      split at hx
      · cases hx
      · obtain rfl := List.mem_singleton.1 hx; exact Nat.le_refl _
    unfold tokGo at h
    simp only [List.length_cons]
    split at h
    · have := hf x h; omega
    · split at h
      · rcases List.mem_append.1 h with h | h
        · have := hf x h; omega
        · have := ih [] x h; simp only [List.length_nil] at this; omega
      · split at h
        · rcases List.mem_append.1 h with h | h
          · have := hf x h; omega
          · rcases List.mem_cons.1 h with rfl | h
            · simp only [List.length_cons, List.length_nil]; omega
            · have := ih [] x h; simp only [List.length_nil] at this; omega
        · have := ih (cur ++ [b]) x h; simp only [List.length_append, List.length_cons, List.length_nil] at this; omega
theorem toksFrom_ok : ∀ (ls : List (List UInt8)) (n : Int), 0 ≤ n → (∀ z ∈ ls, z.length ≤ 1000000000) → ∀ x ∈ toksFrom n ls, TkN x
  | [], _, _, _, x, h => by cases h
  | l :: r, n, hn, hl, x, h => by
    rw [toksFrom] at h
    rcases List.mem_append.1 h with h | h
    · obtain ⟨t, ht, rfl⟩ := List.mem_map.1 h
      have h1 := tokGo_short l [] t ht
      have h2 := hl l List.mem_cons_self
      simp only [List.length_nil] at h1
      exact ⟨hn, by dsimp only; omega⟩
    · exact toksFrom_ok r (n + 1) (by omega) (fun z hz => hl z (List.mem_cons_of_mem _ hz)) x h
theorem toks_ok {l : List UInt8} (h : linesErr l = 0) : (∀ x ∈ toksOf l, TkN x) ∧ (toksOf l).length ≤ 65536 := by
  have hl : l.length ≤ 65536 := by
    unfold linesErr at h
    split at h
    · cases h
    · omega
  refine ⟨toksFrom_ok _ 1 (by decide) (fun z hz => ?_), Nat.le_trans (toks_len l) hl⟩
  have := lines_each l z hz
  omega
/-- Parse's line is not negative. -/
theorem parseB_pos (chk : Rt → Int) (l : List UInt8) : 0 ≤ (parseB chk l).1 := by
  unfold parseB
  split
  · rename_i h
    obtain ⟨h1, h2⟩ := toks_ok h
    have hn : (0 : Int) ≤ ((linesOf l).length : Int) := by omega
    have h3 := (seq_ok hn (2 * (toksOf l).length + 2)).1 false (toksOf l) [] h1 (by rw [NdsOk]; trivial)
    unfold parseT
    revert h3
    cases seqN ((linesOf l).length : Int) (2 * (toksOf l).length + 2) false (toksOf l) [] with
    | error e => exact fun h => h
    | ok a =>
      rintro ⟨h4, -, -⟩
      simp only
      have h5 := readN_pos .top a.1 [] rtN h4
      revert h5
      match readN .top [] a.1 rtN with
      | (r, none) => intro _; simp only; split <;> exact hn
      | (r, some e) => intro h5; exact h5 e rfl
  · exact Int.le_refl 0
def saneT : List UInt8 := [115, 121, 115, 116, 101, 109, 32, 123, 32, 104, 111, 115, 116, 45, 110, 97, 109, 101, 32, 114, 49, 59, 32, 125, 10, 105, 110, 116, 101, 114, 102, 97, 99, 101, 115, 32, 123, 10, 32, 32, 101, 48, 32, 123, 32, 97, 100, 100, 114, 101, 115, 115, 32, 49, 48, 46, 48, 46, 48, 46, 49, 47, 50, 52, 59, 32, 125, 32, 35, 32, 117, 112, 10, 125, 10, 115, 116, 97, 116, 105, 99, 32, 123, 32, 114, 111, 117, 116, 101, 32, 48, 46, 48, 46, 48, 46, 48, 47, 48, 32, 123, 32, 100, 105, 115, 99, 97, 114, 100, 59, 32, 125, 32, 125, 10]
def saneU : List UInt8 := [115, 121, 115, 116, 101, 109, 32, 123, 10, 32, 32, 104, 111, 115, 116, 45, 110, 97, 109, 101, 32, 114, 49, 59, 10, 32, 32, 104, 111, 115, 116, 45, 110, 97, 109, 101, 32, 114, 50, 59, 10, 125, 10]
def saneR : Rt := { rtN with name := [114, 49], ifs := [⟨[101, 48], 167772161, 24, 0, false, false, 0, 0, false, [], [], 0⟩], stat := [⟨0, 0, 0, [], true, 5, 0⟩] }
theorem saneT_run (chk : Rt → Int) (h : chk saneR = 0) : parseB chk saneT = (5, 0, saneR) := by
  have e1 : linesErr saneT = 0 := by decide
  have e2 : seqN ((linesOf saneT).length : Int) (2 * (toksOf saneT).length + 2) false (toksOf saneT) [] = .ok ((seqN 5 100 false (toksOf saneT) []).toOption.getD ([], [])) := by kernel_rfl
  have e3 : readN .top [] ((seqN 5 100 false (toksOf saneT) []).toOption.getD ([], [])).1 rtN = (saneR, none) := by kernel_rfl
  have e4 : ((linesOf saneT).length : Int) = 5 := by decide
  rw [parseB, if_pos e1, parseT, e2]
  simp only [e3]
  rw [if_pos h, e4]
theorem saneU_run (chk : Rt → Int) : parseB chk saneU = (3, 4, rtN) := by
  have e1 : linesErr saneU = 0 := by decide
  have e2 : seqN ((linesOf saneU).length : Int) (2 * (toksOf saneU).length + 2) false (toksOf saneU) [] = .ok ((seqN 4 100 false (toksOf saneU) []).toOption.getD ([], [])) := by kernel_rfl
  have e3 : (readN .top [] ((seqN 4 100 false (toksOf saneU) []).toOption.getD ([], [])).1 rtN).2 = some (3, 4) := by kernel_rfl
  rw [parseB, if_pos e1, parseT, e2]
  revert e3
  simp only
  match readN .top [] ((seqN 4 100 false (toksOf saneU) []).toOption.getD ([], [])).1 rtN with
  | (r, none) => intro h; cases h
  | (r, some e) => intro h; simp only [Option.some.injEq] at h; subst h; rfl
end Go.Proofs.YtmddfkpkddemnaaGreatDoor
namespace Go.Proofs.YtmddfkpkddemnaaGreatDoor
open Go.RowKit
/-- An empty router's cells. -/
def rtE : Array Value := rtN.C
theorem rtE_one : rtE.all (·.oneCell') = true := rtN.one rfl rfl rfl rfl rfl rfl rfl rfl rfl rfl rfl rfl rfl rfl
theorem rtN_at (w : World) (B : Nat) : rtN.at w B := ⟨SlV.nil, SlV.nil, fun _ h => (by cases h), SlV.nil, fun _ h => (by cases h), SlV.nil, fun _ h => (by cases h), SlV.nil, SlV.nil, SlV.nil, SlV.nil, SlV.nil, SlV.nil, SlV.nil, SlV.nil, SlV.nil, SlV.nil⟩
/-- CheckRouter answers E. -/
abbrev CRt (E : Rt → Int) : Prop := ∀ (r : Rt) (w : World) (B : Nat), r.at w B → B ≤ w.heap.size → r.fit → Calls Tryz.prog 39 #[.agg r.C] w fun e w' => e = .returned (.int .i64 (E r)) ∧ Below w.heap.size w w'
/-- What Parse and parse answer: x is what the plain function gives; no later change of blocks below B touches the router. -/
def BRes (E : Rt → Int) (x : Int × Int × Rt) (B : Nat) (e : Ending) (w' : World) : Prop :=
  ∃ r : Rt, r.plain = x.2.2 ∧ e = .returned (.tuple #[.agg r.C, .int .i64 x.1, .int .i64 x.2.1]) ∧ (∀ (ks : List Nat) w'', (∀ k ∈ ks, k < B) → Fr ks w' w'' → r.at w'' w''.heap.size) ∧ (x.2.1 ≠ 0 → r = rtN) ∧ (x.2.1 = 0 → r.fit ∧ E r = 0)
def BPost (E : Rt → Int) (l : List UInt8) (w : World) (e : Ending) (w' : World) : Prop := Below w.heap.size w w' ∧ BRes E (parseB E l) w.heap.size e w'
/-- A fault beside an empty router. -/
theorem BRes.bad {E : Rt → Int} {n f : Int} {B : Nat} {w' : World} (h : f ≠ 0) : BRes E (n, f, rtN) B (.returned (.tuple #[.agg rtE, .int .i64 n, .int .i64 f])) w' :=
  ⟨rtN, rfl, rfl, fun _ _ _ _ => rtN_at _ _, fun _ => rfl, fun e => absurd e h⟩
theorem BRes.ok {E : Rt → Int} {n : Int} {B : Nat} {w' : World} {r p : Rt} (hp : r.plain = p) (ha : ∀ (ks : List Nat) w'', (∀ k ∈ ks, k < B) → Fr ks w' w'' → r.at w'' w''.heap.size) (hf : r.fit) (hE : E r = 0) : BRes E (n, 0, p) B (.returned (.tuple #[.agg r.C, .int .i64 n, .int .i64 0])) w' :=
  ⟨r, hp, rfl, ha, fun h => absurd rfl h, fun _ => ⟨hf, hE⟩⟩
/-- What has been read is within bounds. -/
theorem RtI.fits {k : Nat} {p r : Rt} (h : RtI k p) (hp : r.plain = p) : r.fit := by
  subst hp
  exact ⟨h.ifs.2, fun x hx => (rulesL h hx).2, fun _ _ => trivial, fun x hx => (rulesA h hx).2, h.nat.2, h.stat.2, h.ranges.2, h.lsRed.2, h.dvRed.2, h.nb.2, h.net.2, h.ag.2, h.cd.2, h.pvRed.2⟩
end Go.Proofs.YtmddfkpkddemnaaGreatDoor
namespace Go.Proofs.YtmddfkpkddemnaaGreatDoor
open Go.RowKit Go.Shelf
/-- The place of the first element that meets p, or -1. -/
def idxF {α : Type} (p : α → Bool) : List α → Nat → Int
  | [], _ => -1
  | y :: r, i => if p y then (i : Int) else idxF p r (i + 1)
theorem idxF_lib {α : Type} (p : α → Bool) (d : α) : ∀ (l : List α) (i : Nat), Lib.idxByFrom (fun _ y => p y) d l i = idxF p l i
  | [], _ => rfl
  | y :: r, i => by unfold Lib.idxByFrom idxF; rw [idxF_lib p d r (i + 1)]
theorem idxF_take {α : Type} (p : α → Bool) (d : α) (l : List α) : Lib.idxBy (fun _ y => p y) (l.take l.length) d = idxF p l 0 := by
  rw [List.take_length]; exact idxF_lib p d l 0
theorem idxF_bd {α : Type} (p : α → Bool) : ∀ (l : List α) (i : Nat), -1 ≤ idxF p l i ∧ idxF p l i < (i + l.length : Nat)
  | [], i => ⟨Int.le_refl _, by unfold idxF; omega⟩
  | y :: r, i => by
    unfold idxF
    have := idxF_bd p r (i + 1)
    split
    · exact ⟨by omega, by simp only [List.length_cons]; omega⟩
    · exact ⟨this.1, by simp only [List.length_cons] at this ⊢; omega⟩
/-- The cells of a slice's elements, as the library's contracts ask for them. -/
theorem SlV.cells {α : Type} [Inhabited α] {w : World} {B n : Nat} {cells : α → Array Value} {v : Value} {xs : List α} (hn : 0 < n) (hl : ∀ x, (cells x).toList.length = n) (h : SlV w B n cells v xs) :
    xs = [] ∨ ∃ g o c, v = .slice (some ⟨g, o, none⟩) xs.length c ∧ g < B ∧ ∀ j, j < xs.length → ∀ i u, ((cells xs[j]!).toList)[i]? = some u → w.cell? ⟨g, o + j * n + i, none⟩ = some u := by
  cases xs with
  | nil => exact .inl rfl
  | cons y r =>
    right
    obtain ⟨A, c, rfl, _, A', c', e, _, _, _, h⟩ := h
    injection e with e1 e2 e3
    subst e1
    obtain ⟨g, o, rfl, hg, hc⟩ := h (by simp)
    refine ⟨g, o, c, rfl, hg, fun j hj i u hu => ?_⟩
    have hi : i < n := by
      rcases Nat.lt_or_ge i n with h' | h'
      · exact h'
      · rw [List.getElem?_eq_none (by rw [hl]; exact h')] at hu; cases hu
    rw [Nat.add_assoc]
    refine hc (j * n + i) u ?_
    rw [rows_get (fun x => (cells x).toList) hn hl, Nat.mul_comm j n, Nat.mul_add_div hn, Nat.div_eq_of_lt hi, Nat.add_zero, Nat.mul_add_mod, Nat.mod_eq_of_lt hi, List.getElem?_eq_getElem hj]
    rw [getElem!_pos (y :: r) j hj] at hu
    exact hu
/-- One element of a slice, as a row. -/
theorem SlV.elem {α : Type} {w : World} {B n : Nat} {cells : α → Array Value} {v : Value} {xs : List α} (hn : 0 < n) (hl : ∀ x, (cells x).toList.length = n) (h : SlV w B n cells v xs) {k : Nat} (hk : k < xs.length) :
    ∃ g o c, v = .slice (some ⟨g, o, none⟩) xs.length c ∧ xs.length ≤ c ∧ g < B ∧ w.rangeAt g (o + k * n) (cells xs[k]).toList := by
  obtain ⟨A, c, rfl, hle, A', c', e, _, _, _, h⟩ := h
  injection e with e1 e2 e3
  subst e1
  obtain ⟨g, o, rfl, hg, hc⟩ := h (by omega)
  refine ⟨g, o, c, rfl, hle, hg, fun i u hu => ?_⟩
  have hi : i < n := by
    rcases Nat.lt_or_ge i n with h' | h'
    · exact h'
    · rw [List.getElem?_eq_none (by rw [hl]; exact h')] at hu; cases hu
  rw [Nat.add_assoc]
  refine hc (k * n + i) u ?_
  rw [rows_get (fun x => (cells x).toList) hn hl, Nat.mul_comm k n, Nat.mul_add_div hn, Nat.div_eq_of_lt hi, Nat.add_zero, Nat.mul_add_mod, Nat.mod_eq_of_lt hi, List.getElem?_eq_getElem hk]
  exact hu
def withinB (n lo hi : Int) : Bool := decide (lo ≤ n) && decide (n ≤ hi)
theorem within_any (n lo hi : Int) (w : World) : Calls Tryz.prog 89 #[.int .i64 n, .int .i64 lo, .int .i64 hi] w fun e w' => e = .returned (.bool (withinB n lo hi)) ∧ w = w' := by
  by_cases h1 : lo ≤ n
  · have E : Hid (withinB n lo hi = decide (n ≤ hi)) := Lib.hid (by simp [withinB, h1])
    go_enter Tryz.func89, Tryz.ntmps89
    go_wp2_with fail
    all_goals (go_ret; exact ⟨ret_bool (by rw [E.out]; first | done | (simp; done) | (simp; omega)), rfl⟩)
  · have E : Hid (withinB n lo hi = false) := Lib.hid (by simp [withinB, h1])
    go_enter Tryz.func89, Tryz.ntmps89
    go_wp2_with fail
    go_ret
    exact ⟨ret_bool E.out.symm, rfl⟩
theorem ixIf_zero (A : Option Addr) (c : Nat) (fv : Value) (w : World) : Calls Tryz.prog 188 #[.slice A 0 c, fv] w fun e w' => e = .returned (.int .i64 (-1)) ∧ w = w' := by
  go_enter Tryz.func188, Tryz.ntmps188
  go_wp2_with fail
  go_loopg [8] 1 (fun _ ix wr => ix = .int .i64 0 ∧ w = wr)
  case atStart => exact ⟨rfl, rfl⟩
  case round =>
    obtain ⟨rfl, rfl⟩ := hrel
    go_wp2_with fail
    go_ret
    exact ⟨rfl, rfl⟩
theorem Tryz.aggIf (w : World) : (isAgg 67).run Tryz.prog w = .ok true w := by kernel_rfl
theorem Tryz.szofIf (w : World) : (Go.sizeOf 67).run Tryz.prog w = .ok 12 w := by kernel_rfl
theorem predIf (name : List UInt8) (B : Nat) (w : World) (hB : B < w.heap.size) (hcell : w.cell? ⟨B, 0, none⟩ = some (.string (str name))) :
    PredBelow Tryz.prog 189 #[.pointer (some ⟨B, 0, none⟩)] (fun (x : If) => .agg x.C.toList.toArray) (fun x => x.name == name) w := fun W x hb => by
  have hc : W.cell? ⟨B, 0, none⟩ = some (.string (str name)) := (hb.cell (p := ⟨B, 0, none⟩) hB).trans hcell
  have hc2 : ∀ o, (W.alloc o).cell? ⟨B, 0, none⟩ = some (.string (str name)) := fun o => (World.cell?_alloc_lt W o ⟨B, 0, none⟩ (by show B < _; have := hb.size; omega)).trans hc
  have hb2 := Lib.hid (fun o => hb.alloc hb.size o)
  have E : Hid (((str x.name).toList == (str name).toList) = (x.name == name)) := Lib.hid (by rw [toList_str, toList_str])
  show Calls Tryz.prog 189 #[.agg x.C, .pointer (some ⟨B, 0, none⟩)] W _
  unfold If.C strV
  clear hcell hb hB
  go_enter Tryz.func189, Tryz.ntmps189
  go_wp2_with fail
  all_goals (go_ret; exact ⟨ret_bool (by rw [← E.out]; first | done | (simp_all; done)), hb2.out _⟩)
set_option maxRecDepth 8000 in
set_option maxHeartbeats 1000000 in
theorem interface_any (r : Rt) (name : List UInt8) (w : World) (B : Nat) (h : r.at w B) (hB : B ≤ w.heap.size) : Calls Tryz.prog 147 #[.agg r.C, .string (str name)] w fun e w' => e = .returned (.int .i64 (idxF (fun x => x.name == name) r.ifs 0)) ∧ Below w.heap.size w w' := by
  have H0 := HasC.new w 41 r.C
  have H1 : HasC 41 w.heap.size r.C ((w.alloc (.cells r.C 41)).alloc (.cells #[.string (str name)] 9)) := H0.keep ((Below.refl _ _).alloc (Nat.le_refl _) _)
  have B0 := ((Below.refl w.heap.size w).alloc (Nat.le_refl _) (.cells r.C 41)).alloc (by simp) (.cells #[.string (str name)] 9)
  have c1 : ((w.alloc (.cells r.C 41)).alloc (.cells #[.string (str name)] 9)).cell? ⟨w.heap.size + 1, 0, none⟩ = some (.string (str name)) := by
    have := new_cell (w.alloc (.cells r.C 41)) #[.string (str name)] 9 0
    rw [show (w.alloc (.cells r.C 41)).heap.size = w.heap.size + 1 from by simp] at this
    exact this
  have c0 : ((w.alloc (.cells r.C 41)).alloc (.cells #[.string (str name)] 9)).cell? ⟨w.heap.size, 2, none⟩ = some r.ifsV := H1.cell 2
  have hsz : ((w.alloc (.cells r.C 41)).alloc (.cells #[.string (str name)] 9)).heap.size = w.heap.size + 2 := by simp
  have HS := h.hifs.below (B0.mono hB)
  have K : Calls Tryz.prog 188 #[r.ifsV, .func (.func 189) #[] #[.pointer (some ⟨w.heap.size + 1, 0, none⟩)]] ((w.alloc (.cells r.C 41)).alloc (.cells #[.string (str name)] 9)) fun e w' => e = .returned (.int .i64 (idxF (fun x => x.name == name) r.ifs 0)) ∧ Below w.heap.size w w' := by
    rcases SlV.cells (n := 12) (by decide) (fun _ => rfl) HS with e | ⟨g, o, c, e, hg, hc⟩
    · obtain ⟨A, c, e2, _⟩ := HS
      rw [e2, e]
      refine (ixIf_zero A c _ _).mono ?_
      rintro e w' ⟨rfl, rfl⟩
      exact ⟨rfl, B0⟩
    · rw [e]
      have eg : ∀ args w, (callFunc 189 args).run Tryz.prog w = .ok (.enter 189 args) w := enters_of Tryz.func189 (by kernel_rfl) rfl
      have hm := HS.len
      refine (Tryz.slices_IndexFunc_f188 12 Tryz.aggIf Tryz.szofIf (fun (x : If) => x.C.toList) (fun _ => rfl) (fun x => x.name == name) 189 _ eg g o r.ifs.length c r.ifs _ (predIf name (w.heap.size + 1) _ (by rw [hsz]; omega) c1) (Nat.le_refl _) (by simp only [maxLen] at hm; omega) (by rw [hsz]; omega) hc).mono ?_
      rintro e w' ⟨rfl, hb⟩
      exact ⟨by rw [idxF_take], B0.trans (hb.mono B0.size)⟩
  have HK := Lib.hid K
  clear K HS H0 H1 h
  go_enter Tryz.func147, Tryz.ntmps147
  go_wp2_with fail
  refine HK.out.mono ?_
  rintro e w' ⟨rfl, hb⟩
  go_wp2_with fail
  go_ret
  exact ⟨rfl, hb⟩
theorem ixPList_zero (A : Option Addr) (c : Nat) (fv : Value) (w : World) : Calls Tryz.prog 191 #[.slice A 0 c, fv] w fun e w' => e = .returned (.int .i64 (-1)) ∧ w = w' := by
  go_enter Tryz.func191, Tryz.ntmps191
  go_wp2_with fail
  go_loopg [8] 1 (fun _ ix wr => ix = .int .i64 0 ∧ w = wr)
  case atStart => exact ⟨rfl, rfl⟩
  case round =>
    obtain ⟨rfl, rfl⟩ := hrel
    go_wp2_with fail
    go_ret
    exact ⟨rfl, rfl⟩
theorem Tryz.aggPList (w : World) : (isAgg 103).run Tryz.prog w = .ok true w := by kernel_rfl
theorem Tryz.szofPList (w : World) : (Go.sizeOf 103).run Tryz.prog w = .ok 2 w := by kernel_rfl
theorem predPList (name : List UInt8) (B : Nat) (w : World) (hB : B < w.heap.size) (hcell : w.cell? ⟨B, 0, none⟩ = some (.string (str name))) :
    PredBelow Tryz.prog 192 #[.pointer (some ⟨B, 0, none⟩)] (fun (x : PList) => .agg x.C.toList.toArray) (fun x => x.name == name) w := fun W x hb => by
  have hc : W.cell? ⟨B, 0, none⟩ = some (.string (str name)) := (hb.cell (p := ⟨B, 0, none⟩) hB).trans hcell
  have hc2 : ∀ o, (W.alloc o).cell? ⟨B, 0, none⟩ = some (.string (str name)) := fun o => (World.cell?_alloc_lt W o ⟨B, 0, none⟩ (by show B < _; have := hb.size; omega)).trans hc
  have hb2 := Lib.hid (fun o => hb.alloc hb.size o)
  have E : Hid (((str x.name).toList == (str name).toList) = (x.name == name)) := Lib.hid (by rw [toList_str, toList_str])
  show Calls Tryz.prog 192 #[.agg x.C, .pointer (some ⟨B, 0, none⟩)] W _
  unfold PList.C strV
  clear hcell hb hB
  go_enter Tryz.func192, Tryz.ntmps192
  go_wp2_with fail
  all_goals (go_ret; exact ⟨ret_bool (by rw [← E.out]; first | done | (simp_all; done)), hb2.out _⟩)
set_option maxRecDepth 8000 in
set_option maxHeartbeats 1000000 in
theorem prefixList_any (r : Rt) (name : List UInt8) (w : World) (B : Nat) (h : r.at w B) (hB : B ≤ w.heap.size) : Calls Tryz.prog 152 #[.agg r.C, .string (str name)] w fun e w' => e = .returned (.int .i64 (idxF (fun x => x.name == name) r.lists 0)) ∧ Below w.heap.size w w' := by
  have H0 := HasC.new w 41 r.C
  have H1 : HasC 41 w.heap.size r.C ((w.alloc (.cells r.C 41)).alloc (.cells #[.string (str name)] 9)) := H0.keep ((Below.refl _ _).alloc (Nat.le_refl _) _)
  have B0 := ((Below.refl w.heap.size w).alloc (Nat.le_refl _) (.cells r.C 41)).alloc (by simp) (.cells #[.string (str name)] 9)
  have c1 : ((w.alloc (.cells r.C 41)).alloc (.cells #[.string (str name)] 9)).cell? ⟨w.heap.size + 1, 0, none⟩ = some (.string (str name)) := by
    have := new_cell (w.alloc (.cells r.C 41)) #[.string (str name)] 9 0
    rw [show (w.alloc (.cells r.C 41)).heap.size = w.heap.size + 1 from by simp] at this
    exact this
  have c0 : ((w.alloc (.cells r.C 41)).alloc (.cells #[.string (str name)] 9)).cell? ⟨w.heap.size, 3, none⟩ = some r.listsV := H1.cell 3
  have hsz : ((w.alloc (.cells r.C 41)).alloc (.cells #[.string (str name)] 9)).heap.size = w.heap.size + 2 := by simp
  have HS := h.hlists.below (B0.mono hB)
  have K : Calls Tryz.prog 191 #[r.listsV, .func (.func 192) #[] #[.pointer (some ⟨w.heap.size + 1, 0, none⟩)]] ((w.alloc (.cells r.C 41)).alloc (.cells #[.string (str name)] 9)) fun e w' => e = .returned (.int .i64 (idxF (fun x => x.name == name) r.lists 0)) ∧ Below w.heap.size w w' := by
    rcases SlV.cells (n := 2) (by decide) (fun _ => rfl) HS with e | ⟨g, o, c, e, hg, hc⟩
    · obtain ⟨A, c, e2, _⟩ := HS
      rw [e2, e]
      refine (ixPList_zero A c _ _).mono ?_
      rintro e w' ⟨rfl, rfl⟩
      exact ⟨rfl, B0⟩
    · rw [e]
      have eg : ∀ args w, (callFunc 192 args).run Tryz.prog w = .ok (.enter 192 args) w := enters_of Tryz.func192 (by kernel_rfl) rfl
      have hm := HS.len
      refine (Tryz.slices_IndexFunc_f191 2 Tryz.aggPList Tryz.szofPList (fun (x : PList) => x.C.toList) (fun _ => rfl) (fun x => x.name == name) 192 _ eg g o r.lists.length c r.lists _ (predPList name (w.heap.size + 1) _ (by rw [hsz]; omega) c1) (Nat.le_refl _) (by simp only [maxLen] at hm; omega) (by rw [hsz]; omega) hc).mono ?_
      rintro e w' ⟨rfl, hb⟩
      exact ⟨by rw [idxF_take], B0.trans (hb.mono B0.size)⟩
  have HK := Lib.hid K
  clear K HS H0 H1 h
  go_enter Tryz.func152, Tryz.ntmps152
  go_wp2_with fail
  refine HK.out.mono ?_
  rintro e w' ⟨rfl, hb⟩
  go_wp2_with fail
  go_ret
  exact ⟨rfl, hb⟩
theorem ixRMap_zero (A : Option Addr) (c : Nat) (fv : Value) (w : World) : Calls Tryz.prog 193 #[.slice A 0 c, fv] w fun e w' => e = .returned (.int .i64 (-1)) ∧ w = w' := by
  go_enter Tryz.func193, Tryz.ntmps193
  go_wp2_with fail
  go_loopg [8] 1 (fun _ ix wr => ix = .int .i64 0 ∧ w = wr)
  case atStart => exact ⟨rfl, rfl⟩
  case round =>
    obtain ⟨rfl, rfl⟩ := hrel
    go_wp2_with fail
    go_ret
    exact ⟨rfl, rfl⟩
theorem Tryz.aggRMap (w : World) : (isAgg 108).run Tryz.prog w = .ok true w := by kernel_rfl
theorem Tryz.szofRMap (w : World) : (Go.sizeOf 108).run Tryz.prog w = .ok 2 w := by kernel_rfl
theorem predRMap (name : List UInt8) (B : Nat) (w : World) (hB : B < w.heap.size) (hcell : w.cell? ⟨B, 0, none⟩ = some (.string (str name))) :
    PredBelow Tryz.prog 194 #[.pointer (some ⟨B, 0, none⟩)] (fun (x : RMap) => .agg x.C.toList.toArray) (fun x => x.name == name) w := fun W x hb => by
  have hc : W.cell? ⟨B, 0, none⟩ = some (.string (str name)) := (hb.cell (p := ⟨B, 0, none⟩) hB).trans hcell
  have hc2 : ∀ o, (W.alloc o).cell? ⟨B, 0, none⟩ = some (.string (str name)) := fun o => (World.cell?_alloc_lt W o ⟨B, 0, none⟩ (by show B < _; have := hb.size; omega)).trans hc
  have hb2 := Lib.hid (fun o => hb.alloc hb.size o)
  have E : Hid (((str x.name).toList == (str name).toList) = (x.name == name)) := Lib.hid (by rw [toList_str, toList_str])
  show Calls Tryz.prog 194 #[.agg x.C, .pointer (some ⟨B, 0, none⟩)] W _
  unfold RMap.C strV
  clear hcell hb hB
  go_enter Tryz.func194, Tryz.ntmps194
  go_wp2_with fail
  all_goals (go_ret; exact ⟨ret_bool (by rw [← E.out]; first | done | (simp_all; done)), hb2.out _⟩)
set_option maxRecDepth 8000 in
set_option maxHeartbeats 1000000 in
theorem routeMap_any (r : Rt) (name : List UInt8) (w : World) (B : Nat) (h : r.at w B) (hB : B ≤ w.heap.size) : Calls Tryz.prog 154 #[.agg r.C, .string (str name)] w fun e w' => e = .returned (.int .i64 (idxF (fun x => x.name == name) r.maps 0)) ∧ Below w.heap.size w w' := by
  have H0 := HasC.new w 41 r.C
  have H1 : HasC 41 w.heap.size r.C ((w.alloc (.cells r.C 41)).alloc (.cells #[.string (str name)] 9)) := H0.keep ((Below.refl _ _).alloc (Nat.le_refl _) _)
  have B0 := ((Below.refl w.heap.size w).alloc (Nat.le_refl _) (.cells r.C 41)).alloc (by simp) (.cells #[.string (str name)] 9)
  have c1 : ((w.alloc (.cells r.C 41)).alloc (.cells #[.string (str name)] 9)).cell? ⟨w.heap.size + 1, 0, none⟩ = some (.string (str name)) := by
    have := new_cell (w.alloc (.cells r.C 41)) #[.string (str name)] 9 0
    rw [show (w.alloc (.cells r.C 41)).heap.size = w.heap.size + 1 from by simp] at this
    exact this
  have c0 : ((w.alloc (.cells r.C 41)).alloc (.cells #[.string (str name)] 9)).cell? ⟨w.heap.size, 4, none⟩ = some r.mapsV := H1.cell 4
  have hsz : ((w.alloc (.cells r.C 41)).alloc (.cells #[.string (str name)] 9)).heap.size = w.heap.size + 2 := by simp
  have HS := h.hmaps.below (B0.mono hB)
  have K : Calls Tryz.prog 193 #[r.mapsV, .func (.func 194) #[] #[.pointer (some ⟨w.heap.size + 1, 0, none⟩)]] ((w.alloc (.cells r.C 41)).alloc (.cells #[.string (str name)] 9)) fun e w' => e = .returned (.int .i64 (idxF (fun x => x.name == name) r.maps 0)) ∧ Below w.heap.size w w' := by
    rcases SlV.cells (n := 2) (by decide) (fun _ => rfl) HS with e | ⟨g, o, c, e, hg, hc⟩
    · obtain ⟨A, c, e2, _⟩ := HS
      rw [e2, e]
      refine (ixRMap_zero A c _ _).mono ?_
      rintro e w' ⟨rfl, rfl⟩
      exact ⟨rfl, B0⟩
    · rw [e]
      have eg : ∀ args w, (callFunc 194 args).run Tryz.prog w = .ok (.enter 194 args) w := enters_of Tryz.func194 (by kernel_rfl) rfl
      have hm := HS.len
      refine (Tryz.slices_IndexFunc_f193 2 Tryz.aggRMap Tryz.szofRMap (fun (x : RMap) => x.C.toList) (fun _ => rfl) (fun x => x.name == name) 194 _ eg g o r.maps.length c r.maps _ (predRMap name (w.heap.size + 1) _ (by rw [hsz]; omega) c1) (Nat.le_refl _) (by simp only [maxLen] at hm; omega) (by rw [hsz]; omega) hc).mono ?_
      rintro e w' ⟨rfl, hb⟩
      exact ⟨by rw [idxF_take], B0.trans (hb.mono B0.size)⟩
  have HK := Lib.hid K
  clear K HS H0 H1 h
  go_enter Tryz.func154, Tryz.ntmps154
  go_wp2_with fail
  refine HK.out.mono ?_
  rintro e w' ⟨rfl, hb⟩
  go_wp2_with fail
  go_ret
  exact ⟨rfl, hb⟩
theorem ixAList_zero (A : Option Addr) (c : Nat) (fv : Value) (w : World) : Calls Tryz.prog 195 #[.slice A 0 c, fv] w fun e w' => e = .returned (.int .i64 (-1)) ∧ w = w' := by
  go_enter Tryz.func195, Tryz.ntmps195
  go_wp2_with fail
  go_loopg [8] 1 (fun _ ix wr => ix = .int .i64 0 ∧ w = wr)
  case atStart => exact ⟨rfl, rfl⟩
  case round =>
    obtain ⟨rfl, rfl⟩ := hrel
    go_wp2_with fail
    go_ret
    exact ⟨rfl, rfl⟩
theorem Tryz.aggAList (w : World) : (isAgg 113).run Tryz.prog w = .ok true w := by kernel_rfl
theorem Tryz.szofAList (w : World) : (Go.sizeOf 113).run Tryz.prog w = .ok 2 w := by kernel_rfl
theorem predAList (name : List UInt8) (B : Nat) (w : World) (hB : B < w.heap.size) (hcell : w.cell? ⟨B, 0, none⟩ = some (.string (str name))) :
    PredBelow Tryz.prog 196 #[.pointer (some ⟨B, 0, none⟩)] (fun (x : AList) => .agg x.C.toList.toArray) (fun x => x.name == name) w := fun W x hb => by
  have hc : W.cell? ⟨B, 0, none⟩ = some (.string (str name)) := (hb.cell (p := ⟨B, 0, none⟩) hB).trans hcell
  have hc2 : ∀ o, (W.alloc o).cell? ⟨B, 0, none⟩ = some (.string (str name)) := fun o => (World.cell?_alloc_lt W o ⟨B, 0, none⟩ (by show B < _; have := hb.size; omega)).trans hc
  have hb2 := Lib.hid (fun o => hb.alloc hb.size o)
  have E : Hid (((str x.name).toList == (str name).toList) = (x.name == name)) := Lib.hid (by rw [toList_str, toList_str])
  show Calls Tryz.prog 196 #[.agg x.C, .pointer (some ⟨B, 0, none⟩)] W _
  unfold AList.C strV
  clear hcell hb hB
  go_enter Tryz.func196, Tryz.ntmps196
  go_wp2_with fail
  all_goals (go_ret; exact ⟨ret_bool (by rw [← E.out]; first | done | (simp_all; done)), hb2.out _⟩)
set_option maxRecDepth 8000 in
set_option maxHeartbeats 1000000 in
theorem aCL_any (r : Rt) (name : List UInt8) (w : World) (B : Nat) (h : r.at w B) (hB : B ≤ w.heap.size) : Calls Tryz.prog 156 #[.agg r.C, .string (str name)] w fun e w' => e = .returned (.int .i64 (idxF (fun x => x.name == name) r.acls 0)) ∧ Below w.heap.size w w' := by
  have H0 := HasC.new w 41 r.C
  have H1 : HasC 41 w.heap.size r.C ((w.alloc (.cells r.C 41)).alloc (.cells #[.string (str name)] 9)) := H0.keep ((Below.refl _ _).alloc (Nat.le_refl _) _)
  have B0 := ((Below.refl w.heap.size w).alloc (Nat.le_refl _) (.cells r.C 41)).alloc (by simp) (.cells #[.string (str name)] 9)
  have c1 : ((w.alloc (.cells r.C 41)).alloc (.cells #[.string (str name)] 9)).cell? ⟨w.heap.size + 1, 0, none⟩ = some (.string (str name)) := by
    have := new_cell (w.alloc (.cells r.C 41)) #[.string (str name)] 9 0
    rw [show (w.alloc (.cells r.C 41)).heap.size = w.heap.size + 1 from by simp] at this
    exact this
  have c0 : ((w.alloc (.cells r.C 41)).alloc (.cells #[.string (str name)] 9)).cell? ⟨w.heap.size, 5, none⟩ = some r.aclsV := H1.cell 5
  have hsz : ((w.alloc (.cells r.C 41)).alloc (.cells #[.string (str name)] 9)).heap.size = w.heap.size + 2 := by simp
  have HS := h.hacls.below (B0.mono hB)
  have K : Calls Tryz.prog 195 #[r.aclsV, .func (.func 196) #[] #[.pointer (some ⟨w.heap.size + 1, 0, none⟩)]] ((w.alloc (.cells r.C 41)).alloc (.cells #[.string (str name)] 9)) fun e w' => e = .returned (.int .i64 (idxF (fun x => x.name == name) r.acls 0)) ∧ Below w.heap.size w w' := by
    rcases SlV.cells (n := 2) (by decide) (fun _ => rfl) HS with e | ⟨g, o, c, e, hg, hc⟩
    · obtain ⟨A, c, e2, _⟩ := HS
      rw [e2, e]
      refine (ixAList_zero A c _ _).mono ?_
      rintro e w' ⟨rfl, rfl⟩
      exact ⟨rfl, B0⟩
    · rw [e]
      have eg : ∀ args w, (callFunc 196 args).run Tryz.prog w = .ok (.enter 196 args) w := enters_of Tryz.func196 (by kernel_rfl) rfl
      have hm := HS.len
      refine (Tryz.slices_IndexFunc_f195 2 Tryz.aggAList Tryz.szofAList (fun (x : AList) => x.C.toList) (fun _ => rfl) (fun x => x.name == name) 196 _ eg g o r.acls.length c r.acls _ (predAList name (w.heap.size + 1) _ (by rw [hsz]; omega) c1) (Nat.le_refl _) (by simp only [maxLen] at hm; omega) (by rw [hsz]; omega) hc).mono ?_
      rintro e w' ⟨rfl, hb⟩
      exact ⟨by rw [idxF_take], B0.trans (hb.mono B0.size)⟩
  have HK := Lib.hid K
  clear K HS H0 H1 h
  go_enter Tryz.func156, Tryz.ntmps156
  go_wp2_with fail
  refine HK.out.mono ?_
  rintro e w' ⟨rfl, hb⟩
  go_wp2_with fail
  go_ret
  exact ⟨rfl, hb⟩
/-- An interface has the address a. -/
def hasA (a : Nat) (x : If) : Bool := !(x.len == 0) && x.addr == a
theorem predAdr (adr : Nat) (B : Nat) (w : World) (hB : B < w.heap.size) (hcell : w.cell? ⟨B, 0, none⟩ = some (.int .u32 (adr : Int))) :
    PredBelow Tryz.prog 208 #[.pointer (some ⟨B, 0, none⟩)] (fun (x : If) => .agg x.C.toList.toArray) (hasA adr) w := fun W x hb => by
  have hc : W.cell? ⟨B, 0, none⟩ = some (.int .u32 (adr : Int)) := (hb.cell (p := ⟨B, 0, none⟩) hB).trans hcell
  have hc2 : ∀ o, (W.alloc o).cell? ⟨B, 0, none⟩ = some (.int .u32 (adr : Int)) := fun o => (World.cell?_alloc_lt W o ⟨B, 0, none⟩ (by show B < _; have := hb.size; omega)).trans hc
  have hb2 := Lib.hid (fun o => hb.alloc hb.size o)
  have E : Hid (hasA adr x = (!(x.len == 0) && x.addr == adr)) := Lib.hid rfl
  show Calls Tryz.prog 208 #[.agg x.C, .pointer (some ⟨B, 0, none⟩)] W _
  obtain ⟨name, addr, len, vlan, down, ls, area, cost, dv, inn, out, side⟩ := x
  unfold If.C strV
  dsimp only at E ⊢
  clear hcell hb hB
  by_cases h1 : len = 0
  · subst h1
    go_enter Tryz.func208, Tryz.ntmps208
    go_wp2_with fail
    go_ret
    exact ⟨ret_bool (by rw [E.out]; rfl), hb2.out _⟩
  · have d1 : (len != 0) = true := by simpa using h1
    have d2 : (len == 0) = false := by simpa using h1
    have d3 : ((addr : Int) == (adr : Int)) = (addr == adr) := by rw [Bool.eq_iff_iff]; simp; omega
    go_enter Tryz.func208, Tryz.ntmps208
    go_wp2_with fail
    go_ret
    exact ⟨ret_bool (by rw [E.out, d2, ← d3]; first | rfl | (simp; done)), hb2.out _⟩
set_option maxRecDepth 8000 in
set_option maxHeartbeats 1000000 in
theorem address_any (r : Rt) (adr : Nat) (w : World) (B : Nat) (h : r.at w B) (hB : B ≤ w.heap.size) : Calls Tryz.prog 198 #[.agg r.C, .int .u32 (adr : Int)] w fun e w' => e = .returned (.int .i64 (idxF (hasA adr) r.ifs 0)) ∧ Below w.heap.size w w' := by
  have H0 := HasC.new w 41 r.C
  have H1 : HasC 41 w.heap.size r.C ((w.alloc (.cells r.C 41)).alloc (.cells #[.int .u32 (adr : Int)] 65)) := H0.keep ((Below.refl _ _).alloc (Nat.le_refl _) _)
  have B0 := ((Below.refl w.heap.size w).alloc (Nat.le_refl _) (.cells r.C 41)).alloc (by simp) (.cells #[.int .u32 (adr : Int)] 65)
  have c1 : ((w.alloc (.cells r.C 41)).alloc (.cells #[.int .u32 (adr : Int)] 65)).cell? ⟨w.heap.size + 1, 0, none⟩ = some (.int .u32 (adr : Int)) := by
    have := new_cell (w.alloc (.cells r.C 41)) #[.int .u32 (adr : Int)] 65 0
    rw [show (w.alloc (.cells r.C 41)).heap.size = w.heap.size + 1 from by simp] at this
    exact this
  have c0 : ((w.alloc (.cells r.C 41)).alloc (.cells #[.int .u32 (adr : Int)] 65)).cell? ⟨w.heap.size, 2, none⟩ = some r.ifsV := H1.cell 2
  have hsz : ((w.alloc (.cells r.C 41)).alloc (.cells #[.int .u32 (adr : Int)] 65)).heap.size = w.heap.size + 2 := by simp
  have HS := h.hifs.below (B0.mono hB)
  have K : Calls Tryz.prog 188 #[r.ifsV, .func (.func 208) #[] #[.pointer (some ⟨w.heap.size + 1, 0, none⟩)]] ((w.alloc (.cells r.C 41)).alloc (.cells #[.int .u32 (adr : Int)] 65)) fun e w' => e = .returned (.int .i64 (idxF (hasA adr) r.ifs 0)) ∧ Below w.heap.size w w' := by
    rcases SlV.cells (n := 12) (by decide) (fun _ => rfl) HS with e | ⟨g, o, c, e, hg, hc⟩
    · obtain ⟨A, c, e2, _⟩ := HS
      rw [e2, e]
      refine (ixIf_zero A c _ _).mono ?_
      rintro e w' ⟨rfl, rfl⟩
      exact ⟨rfl, B0⟩
    · rw [e]
      have eg : ∀ args w, (callFunc 208 args).run Tryz.prog w = .ok (.enter 208 args) w := enters_of Tryz.func208 (by kernel_rfl) rfl
      have hm := HS.len
      refine (Tryz.slices_IndexFunc_f188 12 Tryz.aggIf Tryz.szofIf (fun (x : If) => x.C.toList) (fun _ => rfl) (hasA adr) 208 _ eg g o r.ifs.length c r.ifs _ (predAdr adr (w.heap.size + 1) _ (by rw [hsz]; omega) c1) (Nat.le_refl _) (by simp only [maxLen] at hm; omega) (by rw [hsz]; omega) hc).mono ?_
      rintro e w' ⟨rfl, hb⟩
      exact ⟨by rw [idxF_take], B0.trans (hb.mono B0.size)⟩
  have HK := Lib.hid K
  clear K HS H0 H1 h
  go_enter Tryz.func198, Tryz.ntmps198
  go_wp2_with fail
  refine HK.out.mono ?_
  rintro e w' ⟨rfl, hb⟩
  go_wp2_with fail
  go_ret
  exact ⟨rfl, hb⟩
end Go.Proofs.YtmddfkpkddemnaaGreatDoor
namespace Go.Proofs.YtmddfkpkddemnaaGreatDoor
open Go.RowKit
/-- Parse's contract. -/
abbrev PRt (E : Rt → Int) : Prop := ∀ (s : ByteArray) (w : World), EnvA w.heap.size w → Calls Tryz.prog 6 #[.string s] w (BPost E (bytes s) w)
set_option maxRecDepth 8000 in
set_option maxHeartbeats 4000000 in
theorem sane_gen (E : Rt → Int) (PR : PRt E) (h0 : E saneR = 0) (w : World) (he : EnvA w.heap.size w) : Calls Tryz.prog 9 #[] w fun e w' => e = .returned (.bool true) ∧ Below w.heap.size w w' := by
  have HP1 : Hid (Calls Tryz.prog 6 #[.string (str saneT)] w (BPost E saneT w)) := Lib.hid (by have := PR (str saneT) w he; rwa [bytes_str] at this)
  have HP2 : Hid (∀ W, EnvA W.heap.size W → Calls Tryz.prog 6 #[.string (str saneU)] W (BPost E saneU W)) := Lib.hid (fun W hW => by have := PR (str saneU) W hW; rwa [bytes_str] at this)
  have HE := Lib.hid he
  have H0 := Lib.hid h0
  clear he PR h0
  go_enter Tryz.func9, Tryz.ntmps9
  go_wp2_with fail
  refine HP1.out.mono ?_
  rintro e w1 ⟨hb1, r, hpl, he1, hat, -, -⟩
  rw [saneT_run E H0.out] at hpl he1
  subst he1
  have HPL := Lib.hid hpl
  have HAT := Lib.hid hat
  have HB1 := Lib.hid hb1
  have HA1 := Lib.hid (hat [] w1 (fun _ h => by cases h) (Fr.refl _ _))
  clear hpl hat hb1
  go_upto_region 2 with (refine wpList_storeRow rfl 41 _ _ rfl rfl (ds := r.C) rfl (HasC.new _ _ _) rfl Tryz.sizeRt HA1.out.one ?_; intro w2 hz1 hz2)
  have HB2 := Lib.hid (new_below hz2)
  have X2 := Lib.hid hz1
  have HE2 : Hid (EnvA w2.heap.size w2) := Lib.hid ((HE.out.keep (HB1.out.trans (HB2.out.mono HB1.out.size))).up (Nat.le_trans HB1.out.size HB2.out.size))
  have hlt : w1.heap.size < w2.heap.size := blk_lt hz1
  clear hz1 hz2
  go_wp2_with fail
  refine (HP2.out w2 HE2.out).mono ?_
  rintro e w3 ⟨hb3, r3, hpl3, he3, -, hz3, -⟩
  rw [saneU_run E] at he3 hz3
  obtain rfl : r3 = rtN := hz3 (by decide)
  subst he3
  have HB3 := Lib.hid hb3
  clear hb3 hpl3 hz3
  go_upto_region 3 with (refine wpList_storeRow rfl 41 _ _ rfl rfl (ds := rtE) rfl (HasC.new _ _ _) rfl Tryz.sizeRt rtE_one ?_; intro w4 hz1 hz2)
  have HB4 : Hid (Below w2.heap.size w2 w4) := Lib.hid (HB3.out.trans ((new_below hz2).mono HB3.out.size))
  clear hz1 hz2
  have X4 := Lib.hid (X2.out.keep HB4.out)
  have HA4 := HAT.out [] w4 (fun _ h => by cases h) (Fr.of_below (HB2.out.trans (HB4.out.mono HB2.out.size)))
  have HBF : Hid (Below w.heap.size w w4) := Lib.hid (HB1.out.trans ((HB2.out.trans (HB4.out.mono HB2.out.size)).mono HB1.out.size))
  have hn : r.name = [114, 49] := (congrArg Rt.name HPL.out : r.plain.name = _)
  have hi : r.ifs = saneR.ifs := (congrArg Rt.ifs HPL.out : r.plain.ifs = _)
  have hs : r.stat = saneR.stat := (congrArg Rt.stat HPL.out : r.plain.stat = _)
  have S1 : SlV w4 w4.heap.size 12 If.C r.ifsV saneR.ifs := hi ▸ HA4.hifs
  have S2 : SlV w4 w4.heap.size 7 Sr.C r.statV saneR.stat := hs ▸ HA4.hstat
  obtain ⟨gi, oi, ci, ei, -, hgi, Ri⟩ := S1.elem (n := 12) (by decide) (fun _ => rfl) (k := 0) (by decide)
  obtain ⟨gs, os, cs, es, -, hgs, Rs⟩ := S2.elem (n := 7) (by decide) (fun _ => rfl) (k := 0) (by decide)
  have k0 : w4.cell? ⟨w1.heap.size, 0, none⟩ = .some (.string (str [114, 49])) := (X4.out.cell 0).trans (by show some (strV r.name) = _; rw [hn]; rfl)
  have k2 : w4.cell? ⟨w1.heap.size, 2, none⟩ = .some (.slice (some ⟨gi, oi, none⟩) 1 ci) := (X4.out.cell 2).trans (by show some r.ifsV = _; rw [ei]; rfl)
  have k7 : w4.cell? ⟨w1.heap.size, 7, none⟩ = .some (.slice (some ⟨gs, os, none⟩) 1 cs) := (X4.out.cell 7).trans (by show some r.statV = _; rw [es]; rfl)
  have kd : w4.cell? ⟨gi, oi + 4, none⟩ = .some (.bool false) := by
    have := Ri 4 _ rfl
    rw [Nat.zero_mul, Nat.add_zero] at this
    exact this
  have ke : w4.cell? ⟨gs, os + 5, none⟩ = .some (.int .i64 5) := by
    have := Rs 5 _ rfl
    rw [Nat.zero_mul, Nat.add_zero] at this
    exact this
  have kq : ((str [114, 49]).toList == [114, 49]) = true := by rw [toList_str]; rfl
  clear S1 Ri Rs ei es HA4 hn hi hs hgi hgs S2
  go_wp2_with fail
  go_ret
  exact ⟨rfl, HBF.out⟩
end Go.Proofs.YtmddfkpkddemnaaGreatDoor
