/- Plain lemmas that the walks share: strings as lists of bytes, an owned row that grows by one element, endings. No condition. -/
import Derived.Test.YtnhemjdmleilcaaGreatDoorProg
import Derived.WalkKit
import Derived.WalkSpells
import Derived.WalkLawsBesides
import Derived.Outline
import Derived.Lib.Hide
import Derived.Deep.QuietTactic
import Derived.BigQuiet
import Derived.Deep.Draws
import Derived.Laws.OwnMore
import Derived.Maps.AppendAt
import Derived.BigFrame

namespace Go.Proofs.YtnhemjdmleilcaaGreatDoor
open Go.RowKit

theorem ret_bool {a b : Bool} (h : a = b) : Ending.returned (.bool a) = .returned (.bool b) := by rw [h]
theorem ret_int {k : IntKind} {a b : Int} (h : a = b) : Ending.returned (.int k a) = .returned (.int k b) := by rw [h]
theorem bool_int {a b : Int} (h : a = b) : Value.int .i64 a = .int .i64 b := by rw [h]

/-- A list of bytes as a string's value. -/
def str (l : List UInt8) : ByteArray := ⟨l.toArray⟩
def strV (l : List UInt8) : Value := .string (str l)
def bytes (s : ByteArray) : List UInt8 := s.data.toList
theorem str_bytes (s : ByteArray) : str (bytes s) = s := rfl
theorem bytes_str (l : List UInt8) : bytes (str l) = l := by simp [bytes, str]
theorem bytes_len (s : ByteArray) : (bytes s).length = s.size := by simp [bytes]
theorem str_size (l : List UInt8) : (str l).size = l.length := by rw [← bytes_len, bytes_str]
theorem str_inj {a b : List UInt8} (h : str a = str b) : a = b := by rw [← bytes_str a, h, bytes_str]
theorem strV_one (l : List UInt8) : (strV l).oneCell' = true := rfl

theorem drop_step (s : ByteArray) (k : Nat) (h : k < s.size) : (bytes s).drop k = s[k] :: (bytes s).drop (k + 1) := by
  unfold bytes
  rw [List.drop_eq_getElem_cons (by simpa using h)]; rfl
theorem drop_end (s : ByteArray) (k : Nat) (h : ¬ k < s.size) : (bytes s).drop k = [] :=
  List.drop_eq_nil_of_le (by rw [bytes_len]; omega)

/-- The bytes from a up to k. -/
def sub (l : List UInt8) (a k : Nat) : List UInt8 := (l.drop a).take (k - a)
theorem sub_len (l : List UInt8) (a k : Nat) (h : k ≤ l.length) : (sub l a k).length = k - a := by simp [sub]; omega
theorem sub_self (l : List UInt8) (a : Nat) : sub l a a = [] := by simp [sub]
theorem sub_snoc (s : ByteArray) (a k : Nat) (ha : a ≤ k) (h : k < s.size) : sub (bytes s) a (k + 1) = sub (bytes s) a k ++ [s[k]] := by
  unfold sub
  have hl : k - a < ((bytes s).drop a).length := by rw [List.length_drop, bytes_len]; omega
  rw [show k + 1 - a = (k - a) + 1 from by omega, List.take_succ_eq_append_getElem hl]
  congr 2
  rw [List.getElem_drop]
  have e : a + (k - a) = k := by omega
  simp only [e]; rfl
theorem ext_eq (s : ByteArray) (a k : Nat) : s.extract a k = str (sub (bytes s) a k) := by
  apply ByteArray.ext
  simp [str, sub, bytes, ByteArray.data_extract]
  apply Array.ext'
  simp [List.extract_eq_take_drop]
theorem ext_v (s : ByteArray) (a k : Nat) : Value.string (s.extract a k) = strV (sub (bytes s) a k) := by rw [ext_eq]; rfl
theorem sub_all (s : ByteArray) : sub (bytes s) 0 s.size = bytes s := by
  unfold sub; rw [List.drop_zero, List.take_of_length_le (by rw [bytes_len]; omega)]

theorem cell_new_at (w : World) (cs : Array Value) (e : TypeId) (j : Nat) : (w.alloc (.cells cs e)).cell? ((⟨w.heap.size, 0, none⟩ : Addr).add j) = cs[j]? := by
  have : ((⟨w.heap.size, 0, none⟩ : Addr).add j) = ⟨w.heap.size, j, none⟩ := by
    unfold Addr.add; split
    · next h => subst h; rfl
    · simp
  rw [this, World.cell?_alloc_at _ _ _ _ rfl]

/-- append(v, x): one element of 'size' cells, just laid into a block of its own. -/
theorem wpList_append1 {P : Program} {ops : Array Oper} {rest : List Oper} {o : Oper} {a : Act} {Q : Exit → Act → World → Prop} (w : World) (hgd : o.guard = none) (s x : Operand) (t : TypeId)
    (ho : o.op = .call { callee := .builtin .append, args := #[s, x], argTypes := #[t, t] })
    (base : Nat) (e : TypeId) (i : TypeInfo) (z : Value) (size bts : Nat) (ht : P.underlying t = some (.slice e)) (hi : P.info? e = some i) (hz : i.zero = some z)
    (hsize : i.size = size) (hby : i.bytes = bts) (hzs : z.cells.size = size) (hsz : 0 < size)
    (v : Value) (n : Nat) (xs : List Value) (hs : a.eval s = v) (hown : w.ownsRow base e size v n xs)
    (cs : Array Value) (hx : a.eval x = .slice (some ⟨w.heap.size, 0, none⟩) 1 1) (hl : cs.size = size) (h1 : ∀ u ∈ cs.toList, u.oneCell' = true)
    (hbytes : (n + 1) * bts ≤ 140737488355328) (hpos : 1 ≤ bts) (hbase : base ≤ w.heap.size)
    (h : ∀ v' w', w'.ownsRow base e size v' (n + 1) (xs ++ cs.toList) → Below base w w' → wpList P ops Q rest (a.put o.dst v') w') :
    wpList P ops Q (o :: rest) a (w.alloc (.cells cs e)) := by
  refine wpList_append_own _ hgd s x t ho base e i z size bts ht hi hz hsize hby hzs hsz v n xs hs (hown.alloc _) ⟨w.heap.size, 0, none⟩ 1 1 cs.toList hx (by simp [hl]) ?_ h1 ?_ hbytes (by simp; omega) ?_
  · intro j u hu
    rw [cell_new_at]
    simpa using hu
  · have := Nat.le_mul_of_pos_right (n + 1) hpos
    simp only [maxLen]; omega
  · intro v' w' hown' hg _
    refine h v' w' hown' ?_
    refine ((Below.refl base w).alloc hbase _).grown hg (by simp; omega) ?_
    intro k hk
    exact (hown.lt k hk).1

/-- A slice's value of n elements whose cells are xs; it lies below block B. -/
def Slc (w : World) (B size : Nat) (v : Value) (n : Nat) (xs : List Value) : Prop :=
  ∃ A c, v = .slice A n c ∧ n ≤ maxLen ∧ xs.length = n * size ∧ (A = none → c = 0) ∧ (0 < n → ∃ g o, A = some ⟨g, o, none⟩ ∧ g < B ∧ ∀ j u, xs[j]? = some u → w.cell? ⟨g, o + j, none⟩ = some u)

theorem Slc.of_own {w : World} {base : Nat} {e : TypeId} {size n : Nat} {v : Value} {xs : List Value} (h : w.ownsRow base e size v n xs) : Slc w w.heap.size size v n xs := by
  obtain ⟨hl, h⟩ := h
  rcases h with ⟨rfl, rfl⟩ | ⟨g, cap, cur, rfl, hb, hh, hn, hm, hc, ht⟩
  · exact ⟨none, 0, rfl, Nat.zero_le _, hl, fun _ => rfl, fun h => absurd h (by omega)⟩
  · refine ⟨_, cap, rfl, by omega, hl, fun h => (by cases h), fun _ => ⟨g, 0, rfl, ?_, fun j u hu => ?_⟩⟩
    · rcases Nat.lt_or_ge g w.heap.size with h | h
      · exact h
      · rw [Array.getElem?_eq_none h] at hh; cases hh
    · rw [← ht, List.getElem?_take] at hu
      split at hu
      · simp [World.cell?, hh] at hu ⊢; exact hu
      · cases hu
theorem Slc.nil {w : World} {B size : Nat} : Slc w B size (.slice none 0 0) 0 [] := ⟨none, 0, rfl, Nat.zero_le _, by simp, fun _ => rfl, fun h => absurd h (by omega)⟩
theorem Slc.below {w w' : World} {B size n : Nat} {v : Value} {xs : List Value} (h : Slc w B size v n xs) (hb : Below B w w') : Slc w' B size v n xs := by
  obtain ⟨A, c, rfl, hm, hl, hA, h⟩ := h
  refine ⟨A, c, rfl, hm, hl, hA, fun hn => ?_⟩
  obtain ⟨g, o, rfl, hg, hc⟩ := h hn
  exact ⟨g, o, rfl, hg, fun j u hu => (hb.cell (p := ⟨g, o + j, none⟩) hg).trans (hc j u hu)⟩
theorem Slc.mono {w : World} {B B' size n : Nat} {v : Value} {xs : List Value} (h : Slc w B size v n xs) (hB : B ≤ B') : Slc w B' size v n xs := by
  obtain ⟨A, c, rfl, hm, hl, hA, h⟩ := h
  refine ⟨A, c, rfl, hm, hl, hA, fun hn => ?_⟩
  obtain ⟨g, o, rfl, hg, hc⟩ := h hn
  exact ⟨g, o, rfl, by omega, hc⟩
theorem Slc.alloc {w : World} {B size n : Nat} {v : Value} {xs : List Value} (h : Slc w B size v n xs) (hB : B ≤ w.heap.size) (o : Obj) : Slc (w.alloc o) B size v n xs := h.below ((Below.refl B w).alloc hB o)
theorem slc_form {w : World} {B size n : Nat} {v : Value} {xs : List Value} (h : Slc w B size v n xs) : ∃ A c, v = .slice A n c := by
  obtain ⟨A, c, e, _⟩ := h; exact ⟨A, c, e⟩
theorem addr_add (g o j : Nat) : (⟨g, o, none⟩ : Addr).add j = ⟨g, o + j, none⟩ := by
  unfold Addr.add; split
  · next h => subst h; rfl
  · rfl
theorem drewN_below (w : World) (q : Nat) : Below w.heap.size w (w.drewN q) := ⟨rfl, rfl, rfl, Nat.le_refl _, fun _ _ => rfl⟩

/-- append(v, u...): u's cells behind v's, whatever u is. -/
theorem wpList_appendS {P : Program} {ops : Array Oper} {rest : List Oper} {o : Oper} {a : Act} {Q : Exit → Act → World → Prop} (w : World) (hw : Region.wanted o (yielded ops a.tmps) = true) (s x : Operand) (t : TypeId)
    (ho : o.op = .call { callee := .builtin .append, args := #[s, x], argTypes := #[t, t] })
    (base : Nat) (e : TypeId) (i : TypeInfo) (z : Value) (size bts : Nat) (ht : P.underlying t = some (.slice e)) (hi : P.info? e = some i) (hz : i.zero = some z)
    (hsize : i.size = size) (hby : i.bytes = bts) (hzs : z.cells.size = size) (hsz : 0 < size)
    (v : Value) (n : Nat) (xs : List Value) (hs : a.eval s = v) (hown : w.ownsRow base e size v n xs)
    (u : Value) (B m : Nat) (ys : List Value) (hx : a.eval x = u) (hu : Slc w B size u m ys) (h1 : ∀ u ∈ ys, u.oneCell' = true)
    (hbytes : (n + m) * bts ≤ 140737488355328) (hpos : 1 ≤ bts) (hbase : base ≤ w.heap.size)
    (h : ∀ v' w', w'.ownsRow base e size v' (n + m) (xs ++ ys) → Below base w w' → wpList P ops Q rest (a.put o.dst v') w') :
    wpList P ops Q (o :: rest) a w := by
  refine BigFrame.wpList_want hw fun K hK => ?_
  obtain ⟨A, c, rfl, hm, hl, hA, hc⟩ := hu
  cases A with
  | none =>
    obtain rfl := hA rfl
    have hm0 : m = 0 := by
      rcases Nat.eq_zero_or_pos m with h0 | h0
      · exact h0
      · obtain ⟨g, o', e, _⟩ := hc h0; cases e
    subst hm0
    have hy : ys = [] := List.eq_nil_of_length_eq_zero (by simpa using hl)
    subst hy
    have hrun := run_append_owned_none (P := P) (w := w) base t o.type e i size ht hi v n xs hown
    unfold Oper.wp
    simp only [execOp, ho, resolve, invoke, builtin, hs, hx, hrun, Sem.run_bind, Sem.run_pure, Result.andThen_ok, List.map_toArray, List.map_cons, List.map_nil]
    exact hK _ _ (h v w (by simpa using hown) (Below.refl _ _))
  | some ad =>
    refine wp_append_own w s x t ho base e i z size bts ht hi hz hsize hby hzs hsz v n xs hs hown ad m c ys hx hl ?_ h1 ?_ hbytes hbase ?_
    · intro j u hj
      have hm0 : 0 < m := by
        rcases Nat.eq_zero_or_pos m with h0 | h0
        · subst h0
          have hy : ys = [] := List.eq_nil_of_length_eq_zero (by simpa using hl)
          subst hy
          simp at hj
        · exact h0
      obtain ⟨g, o', e, _, hcell⟩ := hc hm0
      injection e with e
      subst e
      rw [addr_add]
      exact hcell j u hj
    · have := Nat.le_mul_of_pos_right (n + m) hpos
      simp only [maxLen]; omega
    · intro v' w' hown' hg _
      refine hK _ _ (h v' w' hown' ?_)
      exact (Below.refl base w).grown hg hbase (fun k hk => (hown.lt k hk).1)
end Go.Proofs.YtnhemjdmleilcaaGreatDoor

/- What the functions of package scan compute, as plain functions on lists of bytes; and plain laws on them. No condition. -/
namespace Go.Proofs.YtnhemjdmleilcaaGreatDoor
open Go.RowKit

def blankB (c : Int) : Bool := c == 9 || c == 32
def digitB (c : Int) : Bool := decide (48 ≤ c) && decide (c ≤ 57)
def letterB (c : Int) : Bool := (decide (65 ≤ c) && decide (c ≤ 90)) || (decide (97 ≤ c) && decide (c ≤ 122))
def markB (c : Int) : Bool := c == 123 || c == 125 || c == 59
def wordB (c : Int) : Bool := !blankB c && !markB c && !(c == 35)
def nameC (c : Int) : Bool := letterB c || digitB c || c == 45 || c == 95 || c == 47 || c == 46
def nameRest (l : List UInt8) : Bool := l.all fun b => nameC b.toNat
def nameB (l : List UInt8) : Bool := match l with
  | [] => false
  | c :: r => decide (r.length ≤ 14) && letterB c.toNat && nameRest r

def validC (c : Int) : Bool := c == 9 || c == 10 || (decide (32 ≤ c) && decide (c ≤ 126))
def validAll (l : List UInt8) : Bool := l.all fun b => validC b.toNat
def flush (cur : List UInt8) : List (List UInt8) := if cur = [] then [] else [cur]
def linesGo : List UInt8 → List UInt8 → List (List UInt8)
  | cur, [] => flush cur
  | cur, c :: r => if (c.toNat : Int) = 10 then cur :: linesGo [] r else linesGo (cur ++ [c]) r
def linesOf (l : List UInt8) : List (List UInt8) := linesGo [] l
/-- The error of Lines: 7 (too long), 2 (a byte that is not allowed), 0. -/
def linesErr (l : List UInt8) : Int := if 65536 < l.length then 7 else if validAll l then 0 else 2

def fieldsGo (cm : Int) : Option (List UInt8) → List UInt8 → List (List UInt8)
  | none, [] => []
  | some x, [] => [x]
  | none, b :: r => if blankB b.toNat then fieldsGo cm none r else if (b.toNat : Int) = cm then [] else fieldsGo cm (some [b]) r
  | some x, b :: r => if blankB b.toNat then x :: fieldsGo cm none r else fieldsGo cm (some (x ++ [b])) r
def fieldsOf (cm : Int) (l : List UInt8) : List (List UInt8) := fieldsGo cm none l

def tokGo : List UInt8 → List UInt8 → List (List UInt8)
  | cur, [] => flush cur
  | cur, b :: r => if (b.toNat : Int) = 35 then flush cur else if blankB b.toNat then flush cur ++ tokGo [] r
      else if markB b.toNat then flush cur ++ [b] :: tokGo [] r else tokGo (cur ++ [b]) r
def tokLine (l : List UInt8) : List (List UInt8) := tokGo [] l
/-- The tokens of lines, the first of which has the number n: pairs of the line's number and the text. -/
def toksFrom : Int → List (List UInt8) → List (Int × List UInt8)
  | _, [] => []
  | n, l :: r => (tokLine l).map (fun t => (n, t)) ++ toksFrom (n + 1) r
def toksOf (l : List UInt8) : List (Int × List UInt8) := toksFrom 1 (linesOf l)

/-- The digits' value behind v; none where a byte is no digit. -/
def numGo : Int → List UInt8 → Option Int
  | v, [] => some v
  | v, b :: r => if digitB b.toNat then numGo (v * 10 + (b.toNat - 48)) r else none
def numForm (l : List UInt8) : Bool := match l with
  | [] => false
  | [_] => true
  | b :: _ => decide (l.length ≤ 10) && !((b.toNat : Int) == 48)
def numOf (l : List UInt8) : Option Int := if numForm l then numGo 0 l else none
def numIn (l : List UInt8) (least most : Int) : Option Int := match numOf l with
  | none => none
  | some v => if least ≤ v ∧ v ≤ most then some v else none
def numV (o : Option Int) : Int := o.getD 0

theorem linesGo_len (l : List UInt8) : ∀ cur, (linesGo cur l).length ≤ l.length + 1 := by
  induction l with
  | nil => intro cur; simp only [linesGo, flush]; split <;> simp
  | cons c r ih =>
    intro cur
    simp only [linesGo]
    split
    · have := ih []; simp; omega
    · have := ih (cur ++ [c]); simp; omega
theorem numGo_bd : ∀ (l : List UInt8) (v n : Int), 0 ≤ v → numGo v l = some n → v ≤ n ∧ n < (v + 1) * 10 ^ l.length := by
  intro l
  induction l with
  | nil =>
    intro v n hv h
    simp only [numGo, Option.some.injEq] at h
    subst h
    simp; omega
  | cons b r ih =>
    intro v n hv h
    simp only [numGo] at h
    split at h
    · next hd =>
      simp only [digitB, Bool.and_eq_true, decide_eq_true_eq] at hd
      obtain ⟨h1, h2⟩ := ih _ _ (by omega) h
      refine ⟨by omega, ?_⟩
      have h3 : (v * 10 + (↑b.toNat - 48) + 1) * 10 ^ r.length ≤ ((v + 1) * 10) * 10 ^ r.length := Int.mul_le_mul_of_nonneg_right (by omega) (Int.le_of_lt (Int.pow_pos (by omega)))
      have h4 : (v + 1) * 10 ^ (b :: r).length = ((v + 1) * 10) * 10 ^ r.length := by
        rw [List.length_cons, Int.pow_succ, Int.mul_assoc, Int.mul_comm (10 ^ r.length) 10]
      omega
    · cases h
end Go.Proofs.YtnhemjdmleilcaaGreatDoor

/- The walks of the small functions of scan and of its reference, and of Name. No condition. -/
namespace Go.Proofs.YtnhemjdmleilcaaGreatDoor
open Go.RowKit

theorem blank_any (c : Int) (w : World) : Calls Tryz.prog 56 #[.int .u8 c] w fun e w' => e = .returned (.bool (blankB c)) ∧ w = w' := by
  go_enter Tryz.func56, Tryz.ntmps56
  go_wp2
  all_goals (go_ret; refine ⟨?_, rfl⟩; simp_all [blankB])
theorem digit_any (c : Int) (w : World) : Calls Tryz.prog 68 #[.int .u8 c] w fun e w' => e = .returned (.bool (digitB c)) ∧ w = w' := by
  go_enter Tryz.func68, Tryz.ntmps68
  go_wp2
  all_goals (go_ret; refine ⟨?_, rfl⟩; (try simp_all [digitB]) <;> omega)
theorem letter_any (c : Int) (w : World) : Calls Tryz.prog 67 #[.int .u8 c] w fun e w' => e = .returned (.bool (letterB c)) ∧ w = w' := by
  go_enter Tryz.func67, Tryz.ntmps67
  go_wp2
  all_goals (go_ret; refine ⟨ret_bool ?_, rfl⟩; rw [Bool.eq_iff_iff]; (try simp [letterB]) <;> omega)
theorem rletter_any (c : Int) (w : World) : Calls Tryz.prog 90 #[.int .u8 c] w fun e w' => e = .returned (.bool (letterB c)) ∧ w = w' := by
  go_enter Tryz.func90, Tryz.ntmps90
  go_wp2
  all_goals (go_ret; refine ⟨ret_bool ?_, rfl⟩; rw [Bool.eq_iff_iff]; (try simp [letterB]) <;> omega)

theorem name_short {s : ByteArray} (h : s.size < 1) : nameB (bytes s) = false := by
  rw [List.eq_nil_of_length_eq_zero (by rw [bytes_len]; omega : (bytes s).length = 0)]; rfl
theorem name_long {s : ByteArray} (h : 15 < s.size) : nameB (bytes s) = false := by
  have hl := bytes_len s
  rw [← List.drop_zero (l := bytes s), drop_step s 0 (by omega)]
  simp only [nameB, List.length_drop]
  rw [decide_eq_false (by omega)]; rfl
theorem name_fits {s : ByteArray} (h1 : 0 < s.size) (h2 : ¬ 15 < s.size) : nameB (bytes s) = (letterB s[0].toNat && nameRest ((bytes s).drop 1)) := by
  have hl := bytes_len s
  conv => lhs; rw [← List.drop_zero (l := bytes s), drop_step s 0 (by omega)]
  simp only [nameB, List.length_drop]
  rw [decide_eq_true (by omega)]; simp
theorem nameRest_step (s : ByteArray) (k : Nat) (h : k < s.size) : nameRest ((bytes s).drop k) = (nameC s[k].toNat && nameRest ((bytes s).drop (k + 1))) := by
  rw [drop_step s k h]; rfl

set_option maxRecDepth 4000 in
set_option maxHeartbeats 400000 in
theorem name_any (s : ByteArray) (w : World) : Calls Tryz.prog 30 #[.string s] w fun e w' => e = .returned (.bool (nameB (bytes s))) ∧ w = w' := by
  by_cases h1 : s.size < 1
  · have Hf := Lib.hid (name_short h1)
    go_enter Tryz.func30, Tryz.ntmps30
    go_wp2
    go_ret
    exact ⟨ret_bool Hf.out.symm, rfl⟩
  by_cases h2 : 15 < s.size
  · have Hf := Lib.hid (name_long h2)
    go_enter Tryz.func30, Tryz.ntmps30
    go_wp2
    go_ret
    exact ⟨ret_bool Hf.out.symm, rfl⟩
  have Hs := Lib.hid (name_fits (by omega) h2)
  have d1 : decide ((s.size : Int) < 1) = false := by simp; omega
  have d2 : decide ((15 : Int) < s.size) = false := by simp; omega
  cases hc : letterB s[0].toNat with
  | false =>
    go_enter Tryz.func30, Tryz.ntmps30
    go_wp2_with (first | (go_at_call 67; refine (letter_any _ _).mono ?_; rintro e w' ⟨rfl, rfl⟩))
    go_ret
    exact ⟨ret_bool (by rw [Hs.out, hc]; rfl), rfl⟩
  | true =>
    go_enter Tryz.func30, Tryz.ntmps30
    go_wp2_with (first | (go_at_call 67; refine (letter_any _ _).mono ?_; rintro e w' ⟨rfl, rfl⟩))
    go_loop [2, 3, 4] (fun _ i _ => ∃ k : Nat, 1 ≤ k ∧ k ≤ s.size ∧ i = .int .i64 k ∧ Hid (nameB (bytes s) = nameRest ((bytes s).drop k))) (fun _ i _ => s.size - (intOf i).toNat)
    case atStart => exact ⟨1, by omega, by omega, rfl, by rw [Hs.out, hc]; rfl⟩
    case round =>
      obtain ⟨k, hk1, hk, rfl, H⟩ := hrel
      by_cases hlt : k < s.size
      · have E := Lib.hid (nameRest_step s k hlt)
        go_wp2_with (first | (go_at_call 67; refine (letter_any _ _).mono ?_; rintro e w' ⟨rfl, rfl⟩) | (go_at_call 68; refine (digit_any _ _).mono ?_; rintro e w' ⟨rfl, rfl⟩))
        all_goals first
          | (go_round
             case rel => exact ⟨k + 1, by omega, by omega, by go_num, by rw [H.out, E.out, show nameC s[k].toNat = true from by (simp_all [nameC, bne])]; rfl⟩
             case measure => simp [intOf]; omega)
          | (go_ret; exact ⟨ret_bool (by rw [H.out, E.out, show nameC s[k].toNat = false from by (simp_all [nameC, bne])]; rfl), rfl⟩)
      · go_wp2_with fail
        go_ret
        exact ⟨ret_bool (by rw [H.out, drop_end s k hlt]; rfl), rfl⟩

set_option maxRecDepth 4000 in
set_option maxHeartbeats 400000 in
theorem rname_any (s : ByteArray) (w : World) : Calls Tryz.prog 50 #[.string s] w fun e w' => e = .returned (.bool (nameB (bytes s))) ∧ w = w' := by
  by_cases h1 : s.size < 1
  · have Hf := Lib.hid (name_short h1)
    go_enter Tryz.func50, Tryz.ntmps50
    go_wp2
    go_ret
    exact ⟨ret_bool Hf.out.symm, rfl⟩
  by_cases h2 : 15 < s.size
  · have Hf := Lib.hid (name_long h2)
    go_enter Tryz.func50, Tryz.ntmps50
    go_wp2
    go_ret
    exact ⟨ret_bool Hf.out.symm, rfl⟩
  have Hs := Lib.hid (name_fits (by omega) h2)
  have d1 : decide ((s.size : Int) < 1) = false := by simp; omega
  have d2 : decide ((15 : Int) < s.size) = false := by simp; omega
  cases hc : letterB s[0].toNat with
  | false =>
    go_enter Tryz.func50, Tryz.ntmps50
    go_wp2_with (first | (go_at_call 90; refine (rletter_any _ _).mono ?_; rintro e w' ⟨rfl, rfl⟩))
    go_ret
    exact ⟨ret_bool (by rw [Hs.out, hc]; rfl), rfl⟩
  | true =>
    go_enter Tryz.func50, Tryz.ntmps50
    go_wp2_with (first | (go_at_call 90; refine (rletter_any _ _).mono ?_; rintro e w' ⟨rfl, rfl⟩))
    go_loop [2, 3, 4] (fun _ i _ => ∃ k : Nat, 1 ≤ k ∧ k ≤ s.size ∧ i = .int .i64 k ∧ Hid (nameB (bytes s) = nameRest ((bytes s).drop k))) (fun _ i _ => s.size - (intOf i).toNat)
    case atStart => exact ⟨1, by omega, by omega, rfl, by rw [Hs.out, hc]; rfl⟩
    case round =>
      obtain ⟨k, hk1, hk, rfl, H⟩ := hrel
      by_cases hlt : k < s.size
      · have E := Lib.hid (nameRest_step s k hlt)
        go_wp2_with (first | (go_at_call 90; refine (rletter_any _ _).mono ?_; rintro e w' ⟨rfl, rfl⟩))
        all_goals first
          | (go_round
             case rel => exact ⟨k + 1, by omega, by omega, by go_num, by rw [H.out, E.out, show nameC s[k].toNat = true from by (simp_all [nameC, digitB, bne])]; rfl⟩
             case measure => simp [intOf]; omega)
          | (go_ret; exact ⟨ret_bool (by rw [H.out, E.out, show nameC s[k].toNat = false from by ((try simp_all [nameC, digitB, bne]) <;> omega)]; rfl), rfl⟩)
      · go_wp2_with fail
        go_ret
        exact ⟨ret_bool (by rw [H.out, drop_end s k hlt]; rfl), rfl⟩
end Go.Proofs.YtnhemjdmleilcaaGreatDoor

/- The walks of Number, the program's and the reference's. No condition. -/
namespace Go.Proofs.YtnhemjdmleilcaaGreatDoor
open Go.RowKit

theorem num_none {l : List UInt8} (h : numOf l = none) (least most : Int) : numIn l least most = none := by simp [numIn, h]
theorem num_short {s : ByteArray} (h : s.size < 1) : numOf (bytes s) = none := by
  rw [List.eq_nil_of_length_eq_zero (by rw [bytes_len]; omega : (bytes s).length = 0)]; rfl
theorem bytes_two {s : ByteArray} (h : 1 < s.size) : bytes s = s[0] :: s[1] :: (bytes s).drop 2 := by
  conv => lhs; rw [← List.drop_zero (l := bytes s), drop_step s 0 (by omega), drop_step s 1 (by omega)]
theorem num_long {s : ByteArray} (h : 10 < s.size) : numOf (bytes s) = none := by
  have hl := bytes_len s
  rw [bytes_two (by omega)] at hl ⊢
  simp only [numOf, numForm, hl]
  rw [decide_eq_false (by omega)]; rfl
theorem num_zero {s : ByteArray} (h : 1 < s.size) (h0 : ((s[0].toNat : Int) == 48) = true) : numOf (bytes s) = none := by
  rw [bytes_two h]
  simp [numOf, numForm, h0]
theorem num_fits {s : ByteArray} (h1 : 0 < s.size) (h2 : ¬ 10 < s.size) (h3 : ¬ (1 < s.size ∧ ((s[0].toNat : Int) == 48) = true)) : numOf (bytes s) = numGo 0 ((bytes s).drop 0) := by
  rw [List.drop_zero]
  by_cases h : 1 < s.size
  · have hl := bytes_len s
    have h4 : ((s[0].toNat : Int) == 48) = false := by
      cases h' : ((s[0].toNat : Int) == 48)
      · rfl
      · exact absurd ⟨h, h'⟩ h3
    have e : numForm (bytes s) = true := by
      rw [bytes_two h] at hl ⊢
      simp only [numForm, hl, h4]
      rw [decide_eq_true (by omega)]; rfl
    simp [numOf, e]
  · have hs : bytes s = [s[0]] := by
      conv => lhs; rw [← List.drop_zero (l := bytes s), drop_step s 0 (by omega), drop_end s 1 (by omega)]
    have e : numForm (bytes s) = true := by rw [hs]; rfl
    simp [numOf, e]
theorem num_bd {n : Int} {k : Nat} (hk : k ≤ 9) (h : n < 10 ^ k) : n ≤ 999999999 := by
  have : (10 : Int) ^ k ≤ 10 ^ 9 := by
    have h1 : (10 : Nat) ^ k ≤ 10 ^ 9 := Nat.pow_le_pow_right (by omega) hk
    exact_mod_cast h1
  have e : (10 : Int) ^ 9 = 1000000000 := by decide
  omega
theorem pow_step {n d : Int} {k : Nat} (h : n < 10 ^ k) (hd : d ≤ 9) : n * 10 + d < 10 ^ (k + 1) := by
  rw [Int.pow_succ]; omega
theorem numGo_stop (s : ByteArray) (k : Nat) (n : Int) (h : k < s.size) (hd : digitB s[k].toNat = false) : numGo n ((bytes s).drop k) = none := by
  rw [drop_step s k h, numGo, hd]; rfl
theorem numGo_go (s : ByteArray) (k : Nat) (n : Int) (h : k < s.size) (hd : digitB s[k].toNat = true) :
    numGo n ((bytes s).drop k) = numGo (n * 10 + (s[k].toNat - 48)) ((bytes s).drop (k + 1)) ∧ 48 ≤ (s[k].toNat : Int) ∧ (s[k].toNat : Int) ≤ 57 := by
  refine ⟨by rw [drop_step s k h, numGo, hd]; rfl, ?_⟩
  simp only [digitB, Bool.and_eq_true, decide_eq_true_eq] at hd
  exact hd
theorem numGo_end (s : ByteArray) (k : Nat) (n : Int) (h : ¬ k < s.size) (e : numOf (bytes s) = numGo n ((bytes s).drop k)) : numOf (bytes s) = some n := by
  rw [e, drop_end s k h]; rfl
theorem digit_no {c : Int} (h : digitB c = false) : c < 48 ∨ 57 < c := by
  simp only [digitB, Bool.and_eq_false_iff, decide_eq_false_iff_not] at h; omega
theorem num_out {l : List UInt8} {n least most : Int} (e : numOf l = some n) (h : n < least ∨ most < n) : numIn l least most = none := by
  simp only [numIn, e]; rw [if_neg (by omega)]
theorem num_in {l : List UInt8} {n least most : Int} (e : numOf l = some n) (h1 : least ≤ n) (h2 : n ≤ most) : numIn l least most = some n := by
  simp only [numIn, e]; rw [if_pos ⟨h1, h2⟩]

set_option maxRecDepth 4000 in
set_option maxHeartbeats 400000 in
theorem number_any (s : ByteArray) (least most : Int) (w : World) : Calls Tryz.prog 94 #[.string s, .int .i64 least, .int .i64 most] w fun e w' =>
    e = .returned (.tuple #[.int .i64 (numV (numIn (bytes s) least most)), .bool (numIn (bytes s) least most).isSome]) ∧ w = w' := by
  by_cases h1 : s.size < 1
  · have Hf := Lib.hid (num_none (num_short h1) least most)
    go_enter Tryz.func94, Tryz.ntmps94
    go_wp2
    go_ret2
    exact ⟨by rw [Hf.out]; rfl, rfl⟩
  by_cases h2 : 10 < s.size
  · have Hf := Lib.hid (num_none (num_long h2) least most)
    go_enter Tryz.func94, Tryz.ntmps94
    go_wp2
    go_ret2
    exact ⟨by rw [Hf.out]; rfl, rfl⟩
  have d1 : decide ((s.size : Int) < 1) = false := by simp; omega
  have d2 : decide ((10 : Int) < s.size) = false := by simp; omega
  by_cases h3 : 1 < s.size ∧ ((s[0].toNat : Int) == 48) = true
  · obtain ⟨h3, h4⟩ := h3
    have Hf := Lib.hid (num_none (num_zero h3 h4) least most)
    go_enter Tryz.func94, Tryz.ntmps94
    go_wp2
    go_ret2
    exact ⟨by rw [Hf.out]; rfl, rfl⟩
  have Hs := Lib.hid (num_fits (by omega) h2 h3)
  by_cases h5 : 1 < s.size
  · have d5 : decide ((1 : Int) < s.size) = true := by simp; omega
    have h6 : ((s[0].toNat : Int) == 48) = false := by
      cases h : ((s[0].toNat : Int) == 48)
      · rfl
      · exact absurd ⟨h5, h⟩ h3
    clear h3
    go_enter Tryz.func94, Tryz.ntmps94
    go_wp2_with fail
    go_loop [6, 7, 8, 9] (fun _ _ v i => ∃ (k : Nat) (n : Int), k ≤ s.size ∧ 0 ≤ n ∧ i = .int .i64 k ∧ v = .int .i64 n ∧ Hid (n < 10 ^ k) ∧ Hid (numOf (bytes s) = numGo n ((bytes s).drop k))) (fun _ _ _ i => s.size - (intOf i).toNat)
    case atStart => exact ⟨0, 0, by omega, by omega, rfl, rfl, Lib.hid (by decide), Hs⟩
    case round =>
      obtain ⟨k, n, hk, hn, rfl, rfl, HB, H⟩ := hrel
      by_cases hlt : k < s.size
      · have hn2 : n ≤ 999999999 := num_bd (by omega) HB.out
        cases hd : digitB s[k].toNat with
        | false =>
          have E := Lib.hid (numGo_stop s k n hlt hd)
          skip
          all_goals go_wp2_with (first | (go_at_call 68; refine (digit_any _ _).mono ?_; rintro e w' ⟨rfl, rfl⟩))
          all_goals (go_ret2; exact ⟨by rw [num_none (H.out.trans E.out)]; rfl, rfl⟩)
        | true =>
          obtain ⟨E0, hd1, hd2⟩ := numGo_go s k n hlt hd
          have E := Lib.hid E0; clear E0
          skip
          go_wp2_with (first | (go_at_call 68; refine (digit_any _ _).mono ?_; rintro e w' ⟨rfl, rfl⟩))
          go_round
          case rel => exact ⟨k + 1, n * 10 + (s[k].toNat - 48), by omega, by omega, by go_num, by go_num, Lib.hid (pow_step HB.out (by omega)), Lib.hid (H.out.trans E.out)⟩
          case measure => simp [intOf]; omega
      · have E := Lib.hid (numGo_end s k n hlt H.out)
        clear H HB
        by_cases hl : n < least
        · have Hf := Lib.hid (num_out (most := most) E.out (Or.inl hl))
          go_wp2_with fail
          go_ret2
          exact ⟨by rw [Hf.out]; rfl, rfl⟩
        by_cases hm : most < n
        · have Hf := Lib.hid (num_out (least := least) E.out (Or.inr hm))
          go_wp2_with fail
          go_ret2
          exact ⟨by rw [Hf.out]; rfl, rfl⟩
        have Hf := Lib.hid (num_in E.out (Int.not_lt.1 hl) (Int.not_lt.1 hm))
        go_wp2_with fail
        go_ret2
        exact ⟨by rw [Hf.out]; rfl, rfl⟩
  · have d5 : decide ((1 : Int) < s.size) = false := by simp; omega
    clear h3
    go_enter Tryz.func94, Tryz.ntmps94
    go_wp2_with fail
    go_loop [6, 7, 8, 9] (fun _ _ v i => ∃ (k : Nat) (n : Int), k ≤ s.size ∧ 0 ≤ n ∧ i = .int .i64 k ∧ v = .int .i64 n ∧ Hid (n < 10 ^ k) ∧ Hid (numOf (bytes s) = numGo n ((bytes s).drop k))) (fun _ _ _ i => s.size - (intOf i).toNat)
    case atStart => exact ⟨0, 0, by omega, by omega, rfl, rfl, Lib.hid (by decide), Hs⟩
    case round =>
      obtain ⟨k, n, hk, hn, rfl, rfl, HB, H⟩ := hrel
      by_cases hlt : k < s.size
      · have hn2 : n ≤ 999999999 := num_bd (by omega) HB.out
        cases hd : digitB s[k].toNat with
        | false =>
          have E := Lib.hid (numGo_stop s k n hlt hd)
          skip
          all_goals go_wp2_with (first | (go_at_call 68; refine (digit_any _ _).mono ?_; rintro e w' ⟨rfl, rfl⟩))
          all_goals (go_ret2; exact ⟨by rw [num_none (H.out.trans E.out)]; rfl, rfl⟩)
        | true =>
          obtain ⟨E0, hd1, hd2⟩ := numGo_go s k n hlt hd
          have E := Lib.hid E0; clear E0
          skip
          go_wp2_with (first | (go_at_call 68; refine (digit_any _ _).mono ?_; rintro e w' ⟨rfl, rfl⟩))
          go_round
          case rel => exact ⟨k + 1, n * 10 + (s[k].toNat - 48), by omega, by omega, by go_num, by go_num, Lib.hid (pow_step HB.out (by omega)), Lib.hid (H.out.trans E.out)⟩
          case measure => simp [intOf]; omega
      · have E := Lib.hid (numGo_end s k n hlt H.out)
        clear H HB
        by_cases hl : n < least
        · have Hf := Lib.hid (num_out (most := most) E.out (Or.inl hl))
          go_wp2_with fail
          go_ret2
          exact ⟨by rw [Hf.out]; rfl, rfl⟩
        by_cases hm : most < n
        · have Hf := Lib.hid (num_out (least := least) E.out (Or.inr hm))
          go_wp2_with fail
          go_ret2
          exact ⟨by rw [Hf.out]; rfl, rfl⟩
        have Hf := Lib.hid (num_in E.out (Int.not_lt.1 hl) (Int.not_lt.1 hm))
        go_wp2_with fail
        go_ret2
        exact ⟨by rw [Hf.out]; rfl, rfl⟩

end Go.Proofs.YtnhemjdmleilcaaGreatDoor

/- The walks of Lines, the program's and the reference's. No condition. -/
namespace Go.Proofs.YtnhemjdmleilcaaGreatDoor
open Go.RowKit

theorem Tryz.strInfo : (Tryz.prog.info? 9).map (fun i => (i.zero, i.size, i.bytes)) = some (some (.string ByteArray.empty), 1, 16) := by kernel_rfl

def linesRes (l : List UInt8) : List (List UInt8) := if linesErr l = 0 then linesOf l else []
def LinesPost (l : List UInt8) (w : World) (e : Ending) (w' : World) : Prop :=
  ∃ v, e = .returned (.tuple #[v, .int .i64 (linesErr l)]) ∧ w'.ownsRow w.heap.size 9 1 v (linesRes l).length ((linesRes l).map strV) ∧ Below w.heap.size w w'

theorem lines_of_limit {s : ByteArray} (h : 65536 < s.size) : linesErr (bytes s) = 7 := by
  unfold linesErr; rw [bytes_len, if_pos h]
theorem lines_of_bad {s : ByteArray} (h : ¬ 65536 < s.size) (hv : validAll (bytes s) = false) : linesErr (bytes s) = 2 := by
  unfold linesErr; rw [bytes_len, if_neg h, hv]; rfl
theorem lines_of_ok {s : ByteArray} (h : ¬ 65536 < s.size) (hv : validAll (bytes s) = true) : linesErr (bytes s) = 0 := by
  unfold linesErr; rw [bytes_len, if_neg h, hv]; rfl
theorem linesPost_nil {l : List UInt8} {n : Int} (h : linesErr l = n) (hn : n ≠ 0) {w w' : World} (hb : Below w.heap.size w w') : LinesPost l w (.returned (.tuple #[.slice none 0 0, .int .i64 n])) w' := by
  refine ⟨.slice none 0 0, by rw [h], ?_, hb⟩
  unfold linesRes; rw [if_neg (by rw [h]; exact hn)]
  exact World.ownsRow_nil _ _ _ _
theorem linesPost_ok {l : List UInt8} (h : linesErr l = 0) {w w' : World} {v : Value} {n : Nat} {xs : List (List UInt8)} (e : linesOf l = xs) (hn : n = xs.length) (ho : w'.ownsRow w.heap.size 9 1 v n (xs.map strV)) (hb : Below w.heap.size w w') : LinesPost l w (.returned (.tuple #[v, .int .i64 0])) w' := by
  refine ⟨v, by rw [h], ?_, hb⟩
  unfold linesRes; rw [if_pos h, e, ← hn]
  exact ho

theorem valid_step (s : ByteArray) (k : Nat) (h : k < s.size) : validAll ((bytes s).drop k) = (validC s[k].toNat && validAll ((bytes s).drop (k + 1))) := by
  rw [drop_step s k h]; rfl
theorem valid_no {c : Int} (h : validC c = false) : (c != 9) = true ∧ (c != 10) = true ∧ (c < 32 ∨ 126 < c) := by
  simp only [validC, Bool.or_eq_false_iff, Bool.and_eq_false_iff, decide_eq_false_iff_not] at h
  refine ⟨by simp [bne, h.1.1], by simp [bne, h.1.2], ?_⟩
  omega
theorem valid_yes {c : Int} (h : validC c = true) : (c != 9) = false ∨ ((c != 9) = true ∧ (c != 10) = false) ∨ ((c != 9) = true ∧ (c != 10) = true ∧ 32 ≤ c ∧ c ≤ 126) := by
  simp only [validC, Bool.or_eq_true, Bool.and_eq_true, decide_eq_true_eq] at h
  by_cases h9 : c = 9
  · exact .inl (by simp [h9])
  by_cases h10 : c = 10
  · exact .inr (.inl ⟨by simp [h9], by simp [h10]⟩)
  · refine .inr (.inr ⟨by simp [h9], by simp [h10], ?_⟩)
    simp [h9, h10] at h; exact h
theorem linesGo_feed (s : ByteArray) (a k : Nat) (h : k < s.size) (hc : ((s[k].toNat : Int) == 10) = true) :
    linesGo (sub (bytes s) a k) ((bytes s).drop k) = sub (bytes s) a k :: linesGo (sub (bytes s) (k + 1) (k + 1)) ((bytes s).drop (k + 1)) := by
  rw [drop_step s k h, linesGo, if_pos (by simpa using hc), sub_self]
theorem linesGo_else (s : ByteArray) (a k : Nat) (ha : a ≤ k) (h : k < s.size) (hc : ((s[k].toNat : Int) == 10) = false) :
    linesGo (sub (bytes s) a k) ((bytes s).drop k) = linesGo (sub (bytes s) a (k + 1)) ((bytes s).drop (k + 1)) := by
  rw [drop_step s k h, linesGo, if_neg (by simpa using hc), sub_snoc s a k ha h]
theorem linesGo_end (s : ByteArray) (a k : Nat) (h : k = s.size) (ha : a ≤ k) : linesGo (sub (bytes s) a k) ((bytes s).drop k) = if a < s.size then [sub (bytes s) a s.size] else [] := by
  subst h
  rw [drop_end s s.size (by omega), linesGo, flush]
  have hl := sub_len (bytes s) a s.size (by rw [bytes_len]; omega)
  by_cases h : a < s.size
  · rw [if_neg (by intro e; rw [e] at hl; simp at hl; omega), if_pos h]
  · rw [if_pos (List.eq_nil_of_length_eq_zero (by omega)), if_neg h]
theorem app1 {α : Type} {a b c : List α} {x : α} (h : a = b ++ x :: c) : a = (b ++ [x]) ++ c := by simp [h]
theorem one_str (s : ByteArray) : ∀ u ∈ (#[Value.string s] : Array Value).toList, u.oneCell' = true := by
  intro u hu; simp at hu; subst hu; rfl
theorem map_snoc (xs : List (List UInt8)) (x : List UInt8) : xs.map strV ++ #[strV x].toList = (xs ++ [x]).map strV := by simp

set_option maxRecDepth 4000 in
set_option maxHeartbeats 400000 in
theorem lines_limit (s : ByteArray) (w : World) (h : 65536 < s.size) : Calls Tryz.prog 21 #[.string s] w (LinesPost (bytes s) w) := by
  have Hf := Lib.hid (lines_of_limit h)
  go_enter Tryz.func21, Tryz.ntmps21
  go_wp2
  go_ret2
  exact linesPost_nil Hf.out (by omega) (Below.refl _ _)

set_option maxRecDepth 4000 in
set_option maxHeartbeats 400000 in
theorem lines_bad (s : ByteArray) (w : World) (h : ¬ 65536 < s.size) (hv : validAll (bytes s) = false) : Calls Tryz.prog 21 #[.string s] w (LinesPost (bytes s) w) := by
  have Hf := Lib.hid (lines_of_bad h hv)
  have Hv : Hid (validAll ((bytes s).drop 0) = false) := Lib.hid (by simpa using hv)
  clear hv
  have d1 : decide ((65536 : Int) < s.size) = false := by simp; omega
  go_enter Tryz.func21, Tryz.ntmps21
  go_wp2
  go_loop [2, 3, 4, 5] (fun _ _ i _ => ∃ k : Nat, k ≤ s.size ∧ i = .int .i64 k ∧ Hid (validAll ((bytes s).drop k) = false)) (fun _ _ i _ => s.size - (intOf i).toNat)
  case atStart => exact ⟨0, by omega, rfl, Hv⟩
  case round =>
    obtain ⟨k, hk, rfl, H⟩ := hrel
    by_cases hlt : k < s.size
    · have E := Lib.hid (valid_step s k hlt)
      cases hc : validC s[k].toNat with
      | true =>
        rcases valid_yes hc with h1 | ⟨h1, h2⟩ | ⟨h1, h2, h3, h4⟩
        all_goals
          go_wp2
          go_round
          case rel => exact ⟨k + 1, by omega, by go_num, Lib.hid (by have := H.out; rw [E.out, hc] at this; exact this)⟩
          case measure => simp [intOf]; omega
      | false =>
        obtain ⟨h1, h2, h3⟩ := valid_no hc
        rcases h3 with h3 | h3
        all_goals
          go_wp2
          go_ret2
          exact linesPost_nil Hf.out (by omega) (Below.refl _ _)
    · have := H.out
      rw [drop_end s k hlt] at this
      cases this

set_option maxRecDepth 4000 in
set_option maxHeartbeats 800000 in
theorem lines_ok (s : ByteArray) (w : World) (h : ¬ 65536 < s.size) (hv : validAll (bytes s) = true) : Calls Tryz.prog 21 #[.string s] w (LinesPost (bytes s) w) := by
  obtain ⟨i0, hi0, hz0, hz1, hz2⟩ := info_parts Tryz.strInfo
  have Hi0 := Lib.hid hi0
  have Hz0 := Lib.hid hz0
  have Hz1 := Lib.hid hz1
  have Hz2 := Lib.hid hz2
  clear hi0 hz0 hz1 hz2
  have Hf := Lib.hid (lines_of_ok h hv)
  have Hv : Hid (validAll ((bytes s).drop 0) = true) := Lib.hid (by simpa using hv)
  clear hv
  have d1 : decide ((65536 : Int) < s.size) = false := by simp; omega
  go_enter Tryz.func21, Tryz.ntmps21
  go_wp2
  go_loop [2, 3, 4, 5] (fun a b i _ => ∃ k : Nat, k ≤ s.size ∧ i = .int .i64 k ∧ a = .slice none 0 0 ∧ b = .int .i64 0 ∧ Hid (validAll ((bytes s).drop k) = true)) (fun _ _ i _ => s.size - (intOf i).toNat)
  case atStart => exact ⟨0, by omega, rfl, rfl, rfl, Hv⟩
  case round =>
    obtain ⟨k, hk, rfl, rfl, rfl, H⟩ := hrel
    by_cases hlt : k < s.size
    · have E := Lib.hid (valid_step s k hlt)
      cases hc : validC s[k].toNat with
      | true =>
        rcases valid_yes hc with h1 | ⟨h1, h2⟩ | ⟨h1, h2, h3, h4⟩
        all_goals
          go_wp2
          go_round
          case rel => exact ⟨k + 1, by omega, by go_num, rfl, rfl, Lib.hid (by have := H.out; rw [E.out, hc] at this; exact this)⟩
          case measure => simp [intOf]; omega
      | false =>
        have := H.out
        rw [E.out, hc] at this
        cases this
    · clear H Hv
      have hk2 : k = s.size := by omega
      subst hk2
      go_wp2
      go_loopw [6, 7, 8] (fun v st i wr => ∃ (a k : Nat) (xs : List (List UInt8)), a ≤ k ∧ k ≤ s.size ∧ xs.length ≤ k ∧ i = .int .i64 k ∧ st = .int .i64 a ∧
          wr.ownsRow w.heap.size 9 1 v xs.length (xs.map strV) ∧ Below w.heap.size w wr ∧ Hid (linesOf (bytes s) = xs ++ linesGo (sub (bytes s) a k) ((bytes s).drop k))) (fun _ _ i _ => s.size - (intOf i).toNat)
      case atStart => exact ⟨0, 0, [], by omega, by omega, by simp, rfl, rfl, World.ownsRow_nil _ _ _ _, Below.refl _ _, Lib.hid (by rw [sub_self, List.drop_zero]; rfl)⟩
      case round =>
        obtain ⟨a, k, xs, ha, hk, hx, rfl, rfl, hown, hb, H⟩ := hrel
        have hsz := hb.size
        by_cases hlt : k < s.size
        · cases hc : ((s[k].toNat : Int) == 10) with
          | true =>
            have E := Lib.hid (linesGo_feed s a k hlt hc)
            go_wp2_with (first | (at_builtin; refine wpList_append1 _ rfl _ _ 79 rfl w.heap.size 9 i0 _ 1 16 Tryz.underlying79 Hi0.out Hz0.out Hz1.out Hz2.out rfl (by decide) _ xs.length (xs.map strV) rfl hown #[.string (s.extract a k)] rfl rfl (one_str _) (by omega) (by decide) hsz ?_; intro v1 w1 hown1 hb1))
            go_roundw
            case rel => exact ⟨k + 1, k + 1, xs ++ [sub (bytes s) a k], by omega, by omega, by simp; omega, by go_num, by go_num, by rw [ext_v, map_snoc] at hown1; simpa using hown1, hb.trans hb1, Lib.hid (app1 (by rw [H.out, E.out]))⟩
            case measure => simp [intOf]; omega
          | false =>
            have E := Lib.hid (linesGo_else s a k ha hlt hc)
            go_wp2
            go_roundw
            case rel => exact ⟨a, k + 1, xs, by omega, by omega, by omega, by go_num, rfl, hown, hb, Lib.hid (by rw [H.out, E.out])⟩
            case measure => simp [intOf]; omega
        · have E := Lib.hid (linesGo_end s a k (by omega) ha)
          by_cases hal : a < s.size
          · go_wp2_with (first | (at_builtin; refine wpList_append1 _ rfl _ _ 79 rfl w.heap.size 9 i0 _ 1 16 Tryz.underlying79 Hi0.out Hz0.out Hz1.out Hz2.out rfl (by decide) _ xs.length (xs.map strV) rfl hown #[.string (s.extract a s.size)] rfl rfl (one_str _) (by omega) (by decide) hsz ?_; intro v1 w1 hown1 hb1))
            go_ret2
            refine linesPost_ok Hf.out (n := xs.length + 1) (xs := xs ++ [sub (bytes s) a s.size]) (by rw [H.out, E.out, if_pos hal]) (by simp) ?_ (hb.trans hb1)
            rw [ext_v, map_snoc] at hown1
            exact hown1
          · go_wp2
            go_ret2
            exact linesPost_ok Hf.out (by rw [H.out, E.out, if_neg hal, List.append_nil]) rfl hown hb

theorem lines_any (s : ByteArray) (w : World) : Calls Tryz.prog 21 #[.string s] w (LinesPost (bytes s) w) := by
  by_cases h : 65536 < s.size
  · exact lines_limit s w h
  · cases hv : validAll (bytes s) with
    | true => exact lines_ok s w h hv
    | false => exact lines_bad s w h hv

theorem valid_feed {c : Int} (h : (c == 10) = true) : (c != 9) = true ∧ (c != 10) = false ∧ validC c = true := by
  have : c = 10 := by simpa using h
  subst this
  decide
theorem valid_cases {c : Int} (h : (c == 10) = false) (hv : validC c = true) : (c != 9) = false ∨ ((c != 9) = true ∧ (c != 10) = true ∧ 32 ≤ c ∧ c ≤ 126) := by
  rcases valid_yes hv with h1 | ⟨h1, h2⟩ | ⟨h1, h2, h3, h4⟩
  · exact .inl h1
  · simp [bne, h] at h2
  · exact .inr ⟨h1, h2, h3, h4⟩

end Go.Proofs.YtnhemjdmleilcaaGreatDoor

/- The walks of Fields, the program's and the reference's. Condition: the line has at most 10^9 bytes. -/
namespace Go.Proofs.YtnhemjdmleilcaaGreatDoor
open Go.RowKit

def FieldsPost (xs : List (List UInt8)) (w : World) (e : Ending) (w' : World) : Prop :=
  ∃ v, e = .returned v ∧ w'.ownsRow w.heap.size 9 1 v xs.length (xs.map strV) ∧ Below w.heap.size w w'

theorem fields_blank (cm : Int) (s : ByteArray) (k : Nat) (h : k < s.size) (hb : blankB s[k].toNat = true) : fieldsGo cm none ((bytes s).drop k) = fieldsGo cm none ((bytes s).drop (k + 1)) := by
  rw [drop_step s k h, fieldsGo, if_pos hb]
theorem fields_comment (cm : Int) (s : ByteArray) (k : Nat) (h : k < s.size) (hb : blankB s[k].toNat = false) (hc : ((s[k].toNat : Int) == cm) = true) : fieldsGo cm none ((bytes s).drop k) = [] := by
  rw [drop_step s k h, fieldsGo, if_neg (by simp [hb]), if_pos (by simpa using hc)]
theorem fields_open (cm : Int) (s : ByteArray) (k : Nat) (h : k < s.size) (hb : blankB s[k].toNat = false) (hc : ((s[k].toNat : Int) == cm) = false) :
    fieldsGo cm none ((bytes s).drop k) = fieldsGo cm (some (sub (bytes s) k k)) ((bytes s).drop k) := by
  rw [drop_step s k h, fieldsGo, if_neg (by simp [hb]), if_neg (by simpa using hc), fieldsGo, if_neg (by simp [hb]), sub_self]; rfl
theorem fields_on (cm : Int) (s : ByteArray) (a k : Nat) (ha : a ≤ k) (h : k < s.size) (hb : blankB s[k].toNat = false) :
    fieldsGo cm (some (sub (bytes s) a k)) ((bytes s).drop k) = fieldsGo cm (some (sub (bytes s) a (k + 1))) ((bytes s).drop (k + 1)) := by
  rw [drop_step s k h, fieldsGo, if_neg (by simp [hb]), sub_snoc s a k ha h]
theorem fields_shut (cm : Int) (s : ByteArray) (a k : Nat) (h : k < s.size) (hb : blankB s[k].toNat = true) :
    fieldsGo cm (some (sub (bytes s) a k)) ((bytes s).drop k) = sub (bytes s) a k :: fieldsGo cm none ((bytes s).drop k) := by
  rw [drop_step s k h, fieldsGo, if_pos hb, fieldsGo, if_pos hb]
theorem fields_last (cm : Int) (s : ByteArray) (a k : Nat) (h : ¬ k < s.size) :
    fieldsGo cm (some (sub (bytes s) a k)) ((bytes s).drop k) = sub (bytes s) a k :: fieldsGo cm none ((bytes s).drop k) := by
  rw [drop_end s k h]; rfl
theorem fields_end (cm : Int) (s : ByteArray) (k : Nat) (h : ¬ k < s.size) : fieldsGo cm none ((bytes s).drop k) = [] := by
  rw [drop_end s k h]; rfl
theorem fieldsPost_mk {xs ys : List (List UInt8)} {w w' : World} {v : Value} (e : xs = ys) (ho : w'.ownsRow w.heap.size 9 1 v ys.length (ys.map strV)) (hb : Below w.heap.size w w') : FieldsPost xs w (.returned v) w' :=
  ⟨v, rfl, by rw [e]; exact ho, hb⟩

set_option maxRecDepth 4000 in
set_option maxHeartbeats 1000000 in
theorem fields_any (s : ByteArray) (cm : Int) (w : World) (hs : s.size ≤ 1000000000) : Calls Tryz.prog 23 #[.string s, .int .u8 cm] w (FieldsPost (fieldsOf cm (bytes s)) w) := by
  obtain ⟨i0, hi0, hz0, hz1, hz2⟩ := info_parts Tryz.strInfo
  have Hi0 := Lib.hid hi0
  have Hz0 := Lib.hid hz0
  have Hz1 := Lib.hid hz1
  have Hz2 := Lib.hid hz2
  clear hi0 hz0 hz1 hz2
  go_enter Tryz.func23, Tryz.ntmps23
  go_wp2
  go_loopw [5, 6, 7] (fun v i _ wr => ∃ (k : Nat) (xs : List (List UInt8)), k ≤ s.size ∧ xs.length ≤ k ∧ i = .int .i64 k ∧
      wr.ownsRow w.heap.size 9 1 v xs.length (xs.map strV) ∧ Below w.heap.size w wr ∧ Hid (fieldsOf cm (bytes s) = xs ++ fieldsGo cm none ((bytes s).drop k))) (fun _ i _ _ => s.size - (intOf i).toNat)
  case atStart => exact ⟨0, [], by omega, by simp, rfl, World.ownsRow_nil _ _ _ _, Below.refl _ _, Lib.hid (by rw [List.drop_zero]; rfl)⟩
  case round =>
    obtain ⟨k, xs, hk, hx, rfl, hown, hb, H⟩ := hrel
    have hsz := hb.size
    by_cases hlt : k < s.size
    · cases hbl : blankB s[k].toNat with
      | true =>
        have E := Lib.hid (fields_blank cm s k hlt hbl)
        go_wp2_with (first | (go_at_call 56; refine (blank_any _ _).mono ?_; rintro e w' ⟨rfl, rfl⟩))
        go_roundw
        case rel => exact ⟨k + 1, xs, by omega, by omega, by go_num, hown, hb, Lib.hid (by rw [H.out, E.out])⟩
        case measure => simp [intOf]; omega
      | false =>
        cases hc : ((s[k].toNat : Int) == cm) with
        | true =>
          have E := Lib.hid (fields_comment cm s k hlt hbl hc)
          go_wp2_with (first | (go_at_call 56; refine (blank_any _ _).mono ?_; rintro e w' ⟨rfl, rfl⟩))
          go_ret
          exact fieldsPost_mk (by rw [H.out, E.out, List.append_nil]) hown hb
        | false =>
          have E := Lib.hid (fields_open cm s k hlt hbl hc)
          obtain ⟨wo, rfl⟩ : ∃ wo : World, wo = wr := ⟨_, rfl⟩
          go_wp2_with (first | (go_at_call 56; refine (blank_any _ _).mono ?_; rintro e w' ⟨rfl, rfl⟩))
          have H0 : Hid (fieldsOf cm (bytes s) = xs ++ fieldsGo cm (some (sub (bytes s) k k)) ((bytes s).drop k)) := Lib.hid (by rw [H.out, E.out])
          clear E H
          go_loop [6] (fun i => ∃ j : Nat, k ≤ j ∧ j ≤ s.size ∧ i = .int .i64 j ∧ Hid (j = k → blankB s[k].toNat = false) ∧ Hid (fieldsOf cm (bytes s) = xs ++ fieldsGo cm (some (sub (bytes s) k j)) ((bytes s).drop j))) (fun i => s.size - (intOf i).toNat)
          case atStart => exact ⟨k, by omega, by omega, rfl, Lib.hid (fun _ => hbl), H0⟩
          case round =>
            obtain ⟨j, hj1, hj2, rfl, HJ, H⟩ := hrel
            by_cases hlt2 : j < s.size
            · cases hbj : blankB s[j].toNat with
              | false =>
                have E := Lib.hid (fields_on cm s k j hj1 hlt2 hbj)
                go_wp2_with (first | (go_at_call 56; refine (blank_any _ _).mono ?_; rintro e w' ⟨rfl, rfl⟩))
                go_round
                case rel => exact ⟨j + 1, by omega, by omega, by go_num, Lib.hid (fun h => by omega), Lib.hid (by rw [H.out, E.out])⟩
                case measure => simp [intOf]; omega
              | true =>
                have E := Lib.hid (fields_shut cm s k j hlt2 hbj)
                have hjk : k < j := by
                  rcases Nat.lt_or_ge k j with h | h
                  · exact h
                  · have e : j = k := by omega
                    have := HJ.out e
                    subst e
                    rw [hbj] at this
                    cases this
                go_wp2_with (first | (go_at_call 56; refine (blank_any _ _).mono ?_; rintro e w' ⟨rfl, rfl⟩) | (at_builtin; refine wpList_append1 _ rfl _ _ 79 rfl w.heap.size 9 i0 _ 1 16 Tryz.underlying79 Hi0.out Hz0.out Hz1.out Hz2.out rfl (by decide) _ xs.length (xs.map strV) rfl hown #[.string (s.extract k j)] rfl rfl (one_str _) (by omega) (by decide) hsz ?_; intro v1 w1 hown1 hb1))
                go_roundw
                case rel => exact ⟨j, xs ++ [sub (bytes s) k j], by omega, by simp; omega, rfl, by rw [ext_v, map_snoc] at hown1; simpa using hown1, hb.trans hb1, Lib.hid (app1 (by rw [H.out, E.out]))⟩
                case measure => simp [intOf]; omega
            · have E := Lib.hid (fields_last cm s k j hlt2)
              go_wp2_with (first | (go_at_call 56; refine (blank_any _ _).mono ?_; rintro e w' ⟨rfl, rfl⟩) | (at_builtin; refine wpList_append1 _ rfl _ _ 79 rfl w.heap.size 9 i0 _ 1 16 Tryz.underlying79 Hi0.out Hz0.out Hz1.out Hz2.out rfl (by decide) _ xs.length (xs.map strV) rfl hown #[.string (s.extract k j)] rfl rfl (one_str _) (by omega) (by decide) hsz ?_; intro v1 w1 hown1 hb1))
              go_roundw
              case rel => exact ⟨j, xs ++ [sub (bytes s) k j], by omega, by simp; omega, rfl, by rw [ext_v, map_snoc] at hown1; simpa using hown1, hb.trans hb1, Lib.hid (app1 (by rw [H.out, E.out]))⟩
              case measure => simp [intOf]; omega
    · have E := Lib.hid (fields_end cm s k hlt)
      go_wp2_with fail
      go_ret
      exact fieldsPost_mk (by rw [H.out, E.out, List.append_nil]) hown hb

theorem blank_yes {c : Int} (h : blankB c = true) : (c == 9) = true ∨ ((c == 9) = false ∧ (c == 32) = true) := by
  simp only [blankB, Bool.or_eq_true] at h
  cases h9 : (c == 9)
  · simp [h9] at h; exact .inr ⟨rfl, by simp [h]⟩
  · exact .inl rfl
theorem blank_no {c : Int} (h : blankB c = false) : (c == 9) = false ∧ (c == 32) = false ∧ (c != 9) = true ∧ (c != 32) = true := by
  simp only [blankB, Bool.or_eq_false_iff] at h
  exact ⟨h.1, h.2, by simp [bne, h.1], by simp [bne, h.2]⟩
theorem blank_yes' {c : Int} (h : blankB c = true) : (c != 9) = false ∨ ((c != 9) = true ∧ (c != 32) = false) := by
  rcases blank_yes h with h | ⟨h1, h2⟩
  · exact .inl (by simp [bne, h])
  · exact .inr ⟨by simp [bne, h1], by simp [bne, h2]⟩

end Go.Proofs.YtnhemjdmleilcaaGreatDoor

/- The walk of the comparison of two lists of strings. No condition beyond that both can be read. -/
namespace Go.Proofs.YtnhemjdmleilcaaGreatDoor
open Go.RowKit

theorem toList_str (l : List UInt8) : (str l).toList = l := by rw [Go.ByteArray.toList_eq]; simp [str]
theorem list_step {α : Type} (l : List α) (k : Nat) (h : k < l.length) : l.drop k = l[k] :: l.drop (k + 1) := List.drop_eq_getElem_cons h
theorem slc_at {w : World} {B : Nat} {A : Option Addr} {n c : Nat} {xs : List (List UInt8)} (h : Slc w B 1 (.slice A n c) n (xs.map strV)) (hn : n = xs.length) {k : Nat} (hk : k < xs.length) :
    ∃ g o, A = some ⟨g, o, none⟩ ∧ g < B ∧ w.cell? ⟨g, o + k, none⟩ = some (strV xs[k]) := by
  obtain ⟨A', c', e, _, _, _, h⟩ := h
  injection e with e1 e2 e3
  subst e1
  obtain ⟨g, o, rfl, hg, hc⟩ := h (by omega)
  exact ⟨g, o, rfl, hg, hc k _ (by simp [hk])⟩

end Go.Proofs.YtnhemjdmleilcaaGreatDoor

/- The decimal form of a number: the reference's Decimal computes it, and Number reads it back. Condition: the number is not negative (and an int). -/
namespace Go.Proofs.YtnhemjdmleilcaaGreatDoor
open Go.RowKit

def digC (n : Nat) : UInt8 := UInt8.ofNat (48 + n)
theorem digC_toNat (n : Nat) (h : n < 10) : (digC n).toNat = 48 + n := by
  unfold digC; rw [UInt8.toNat_ofNat']; omega
def dec (n : Nat) : List UInt8 := if n < 10 then [digC n] else dec (n / 10) ++ [digC (n % 10)]
termination_by n
theorem dec_small {n : Nat} (h : n < 10) : dec n = [digC n] := by rw [dec, if_pos h]
theorem dec_big {n : Nat} (h : ¬ n < 10) : dec n = dec (n / 10) ++ [digC (n % 10)] := by rw [dec, if_neg h]

theorem numGo_snoc (b : UInt8) : ∀ (l : List UInt8) (v : Int), numGo v (l ++ [b]) = (numGo v l).bind fun u => if digitB b.toNat then some (u * 10 + (b.toNat - 48)) else none := by
  intro l
  induction l with
  | nil => intro v; simp only [List.nil_append, numGo, Option.bind_some]
  | cons c r ih =>
    intro v
    simp only [List.cons_append, numGo]
    split
    · exact ih _
    · rfl
theorem digC_digit {n : Nat} (h : n < 10) : digitB (digC n).toNat = true := by
  rw [digC_toNat n h]; simp [digitB]; omega
theorem numGo_dec (n : Nat) : numGo 0 (dec n) = some (n : Int) := by
  induction n using Nat.strongRecOn with
  | ind n ih =>
    by_cases h : n < 10
    · rw [dec_small h, numGo, digC_digit h, digC_toNat n h]
      simp [numGo]; omega
    · have hm : n % 10 < 10 := Nat.mod_lt _ (by omega)
      rw [dec_big h, numGo_snoc, ih (n / 10) (by omega), digC_digit hm, digC_toNat _ hm]
      simp; omega
theorem dec_len : ∀ (k n : Nat), n < 10 ^ (k + 1) → (dec n).length ≤ k + 1 := by
  intro k
  induction k with
  | zero => intro n h; rw [dec_small (by simpa using h)]; simp
  | succ k ih =>
    intro n h
    by_cases h9 : n < 10
    · rw [dec_small h9]; simp
    · rw [dec_big h9]
      have := ih (n / 10) (by rw [Nat.pow_succ] at h; omega)
      simp; omega
theorem dec_pos (n : Nat) : dec n ≠ [] := by
  by_cases h : n < 10
  · rw [dec_small h]; simp
  · rw [dec_big h]; simp
theorem dec_head (n : Nat) (h : 0 < n) : ∃ c r, dec n = c :: r ∧ c.toNat ≠ 48 := by
  induction n using Nat.strongRecOn with
  | ind n ih =>
    by_cases h9 : n < 10
    · exact ⟨digC n, [], dec_small h9, by rw [digC_toNat n h9]; omega⟩
    · obtain ⟨c, r, e, hc⟩ := ih (n / 10) (by omega) (by omega)
      exact ⟨c, r ++ [digC (n % 10)], by rw [dec_big h9, e]; rfl, hc⟩
theorem numForm_dec (n : Nat) (h : n ≤ 9999999999) : numForm (dec n) = true := by
  have hl := dec_len 9 n (by omega)
  rcases Nat.eq_zero_or_pos n with h0 | h0
  · subst h0; rw [dec_small (by omega)]; rfl
  · obtain ⟨c, r, e, hc⟩ := dec_head n h0
    rw [e] at hl ⊢
    cases r with
    | nil => rfl
    | cons d r =>
      simp only [numForm]
      rw [decide_eq_true (by simpa using hl)]
      have : ((c.toNat : Int) == 48) = false := by simp; omega
      rw [this]; rfl
theorem numOf_dec (n : Nat) (h : n ≤ 9999999999) : numOf (dec n) = some (n : Int) := by
  unfold numOf; rw [numForm_dec n h, if_pos rfl, numGo_dec]
theorem numOf_zero (n : Nat) : numOf (48 :: dec n) = none := by
  unfold numOf
  have : numForm (48 :: dec n) = false := by
    cases h : dec n with
    | nil => exact absurd h (dec_pos n)
    | cons c r => simp [numForm]
  rw [this]; rfl

theorem dig_ext : ∀ n : Nat, n < 10 → ByteArray.extract ⟨#[48, 49, 50, 51, 52, 53, 54, 55, 56, 57]⟩ n (n + 1) = str [digC n] := by decide +kernel
theorem str_app (a b : List UInt8) : str a ++ str b = str (a ++ b) := by
  apply ByteArray.ext
  simp [str, ByteArray.data_append]

end Go.Proofs.YtnhemjdmleilcaaGreatDoor
