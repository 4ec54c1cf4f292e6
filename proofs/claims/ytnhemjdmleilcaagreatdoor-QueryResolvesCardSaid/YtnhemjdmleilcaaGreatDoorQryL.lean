/- The text of a query in plain Lean; the walks of place and ports. Conditions: the texts are short; Go's own tables are laid (EnvB). -/
import Derived.Test.YtnhemjdmleilcaaGreatDoorQryV
import Derived.Test.YtnhemjdmleilcaaGreatDoorShelf
import Derived.Great.Walk
namespace Go.Proofs.YtnhemjdmleilcaaGreatDoor
open Go.RowKit

/-- Two texts, one behind the other. -/
def cat (l m : List UInt8) : List UInt8 := l ++ m
theorem cat_len (l m : List UInt8) : (cat l m).length = l.length + m.length := List.length_append
/-- Two strings, joined: the operation. -/
theorem wpList_cat {ops : Array Oper} {rest : List Oper} {o : Oper} {a : Act} {w : World} {Q : Exit → Act → World → Prop} (hgd : o.guard = none) (x y : Operand) (ho : o.op = .binOp .add 9 x y 9)
    {l m : List UInt8} (hx : a.eval x = strV l) (hy : a.eval y = strV m) (hl : l.length + m.length ≤ 9223372036854775807)
    (h : wpList Tryz.prog ops Q rest (a.put o.dst (strV (cat l m))) w) : wpList Tryz.prog ops Q (o :: rest) a w := by
  refine Great.wpList_readTo hgd _ rfl _ ?_ h
  have := run_string_add_sum (P := Tryz.prog) w (str l) (str m) (by rw [str_size, str_size]; exact hl)
  rw [str_app] at this
  change _ = Result.ok (Value.string (str (cat l m))) w at this
  have hb : (binOp .add 9 (.string (str l)) (.string (str m))).run Tryz.prog w = .ok (.string (str (cat l m))) w := by
    simp [binOp, this]
  have hg : (eqGuard .add 9 x y (.string (str l)) (.string (str m))).run Tryz.prog w = .ok () w := by
    simp [eqGuard]
  unfold execOp
  simp only [ho, hx, hy, strV, Sem.run_bind, hg, hb, Sem.run_pure, Result.andThen_ok]

/-- The same as an equation. -/
theorem run_cat {l m : List UInt8} (hl : l.length + m.length ≤ 9223372036854775807) : Op.stringOp .add (str l) (str m) = pure (.string (str (cat l m))) := by
  have h : ¬ ((9223372036854775807 : Int) < ((str l).size : Int) + ((str m).size : Int)) := by rw [str_size, str_size]; omega
  have e : str (cat l m) = str l ++ str m := (str_app l m).symm
  rw [e]
  simp [Op.stringOp, h]
def bIface : List UInt8 := [32, 105, 102, 97, 99, 101, 32]
/-- A router and an interface behind a word. -/
def placeT (word r i : List UInt8) : List UInt8 := if i.isEmpty then cat word r else cat (cat word r) (cat bIface i)
theorem place_any (l r i : List UInt8) (w : World) (h1 : l.length ≤ 100) (h2 : r.length ≤ 100) (h3 : i.length ≤ 100) :
    Calls Tryz.prog 25 #[strV l, strV r, strV i] w fun e w' => e = .returned (strV (placeT l r i)) ∧ w = w' := by
  have t := toList_str i
  cases i with
  | nil =>
    unfold strV
    go_enter Tryz.func25, Tryz.ntmps25
    go_wp2_with (first | (refine wpList_cat rfl _ _ rfl rfl rfl (by simp only [List.length_nil] at *; omega) ?_; unfold strV))
    go_ret
    exact ⟨rfl, rfl⟩
  | cons c k =>
    unfold strV
    go_enter Tryz.func25, Tryz.ntmps25
    go_wp2_with (first | (refine wpList_cat rfl _ _ rfl rfl rfl (by simp only [cat_len, List.length_cons, List.length_nil] at *; omega) ?_; unfold strV))
    go_ret
    exact ⟨rfl, rfl⟩
theorem itoaN (m : Nat) (h : m ≤ 65535) (w : World) (he : Env w) : Calls Tryz.prog 28 #[.int .i64 (m : Int)] w fun e w' => e = .returned (.string (str (dec m))) ∧ Below w.heap.size w w' := by
  refine (Tryz.strconv_Itoa (m : Int) (by omega) (by omega) w he.2.1).mono ?_
  rintro e w' ⟨rfl, k, os, rfl⟩
  refine ⟨?_, ?_⟩
  · rw [show Lib.itoa (m : Int) = dec m from by unfold Lib.itoa; rw [if_neg (by omega), Int.toNat_natCast, dec_lib]]
    rfl
  · exact ⟨rfl, rfl, rfl, by simp [Sort.grow, World.drewN], fun j hj => Sort.heap_grow_old (w.drewN k) os hj⟩
theorem dec_short (m : Nat) (h : m ≤ 65535) : (str (dec m)).size ≤ 6 := by rw [str_size]; exact dec_len 5 m (by omega)
/-- A range of ports behind a word. -/
def portT (word : List UInt8) (lo hi : Int) : List UInt8 := if lo = 0 ∧ hi = 65535 then [] else cat (cat (cat word (dec lo.toNat)) [32]) (dec hi.toNat)

theorem Tryz.rngGuard : Tryz.prog.eqGuardType Tryz.prog.depth 29 = false := by kernel_rfl
theorem Tryz.rngStood : Tryz.prog.stoodInHeld 29 = false := by kernel_rfl
theorem rng_eql (a b c d : Int) (w : World) : (binOp .eql 29 (.agg #[.int .i64 a, .int .i64 b]) (.agg #[.int .i64 c, .int .i64 d])).run Tryz.prog w = .ok (.bool (decide (a = c ∧ b = d))) w := by
  have hp := Tryz.rngStood
  by_cases h1 : a = c
  · subst h1
    by_cases h2 : b = d
    · subst h2
      simp [go_sem, hp]
    · have h3 : (b == d) = false := by simp [h2]
      simp [go_sem, hp, h2, h3]
  · have h2 : (a == c) = false := by simp [h1]
    simp [go_sem, hp, h1, h2]

theorem keepPair {z b : Nat} {w0 w w' : World} {v0 v1 : Value}
    (h : w.cell? ⟨b, 0, none⟩ = some v0 ∧ w.cell? ⟨b, 1, none⟩ = some v1 ∧ z ≤ w.heap.size ∧ Below z w0 w) (hb : Below w.heap.size w w') :
    w'.cell? ⟨b, 0, none⟩ = some v0 ∧ w'.cell? ⟨b, 1, none⟩ = some v1 ∧ z ≤ w'.heap.size ∧ Below z w0 w' := by
  obtain ⟨h1, h2, h5, h6⟩ := h
  exact ⟨(hb.cell (World.block_lt_of_cell? _ _ h1)).trans h1, (hb.cell (World.block_lt_of_cell? _ _ h2)).trans h2, Nat.le_trans h5 hb.size, h6.trans (hb.mono h5)⟩
theorem pair_new (w : World) (a b : Value) (t : TypeId) :
    (w.alloc (.cells #[a, b] t)).cell? ⟨w.heap.size, 0, none⟩ = some a ∧ (w.alloc (.cells #[a, b] t)).cell? ⟨w.heap.size, 1, none⟩ = some b ∧ w.heap.size ≤ (w.alloc (.cells #[a, b] t)).heap.size ∧ Below w.heap.size w (w.alloc (.cells #[a, b] t)) :=
  ⟨new_cell _ _ _ _, new_cell _ _ _ _, by simp, (Below.refl _ w).alloc (Nat.le_refl _) _⟩
theorem belowDrew (w : World) : Below w.heap.size w w.drew := (Below.refl _ _).drew
set_option maxRecDepth 100000 in
set_option maxHeartbeats 1000000 in
theorem ports_any (l : List UInt8) (lo hi : Nat) (w : World) (he : Env w) (h1 : l.length ≤ 100) (h2 : lo ≤ 65535) (h3 : hi ≤ 65535) :
    Calls Tryz.prog 29 #[strV l, RV lo hi] w fun e w' => e = .returned (strV (portT l lo hi)) ∧ Below w.heap.size w w' := by
  unfold strV RV
  have g := Tryz.rngGuard
  have hb := fun o => (Below.refl w.heap.size w).alloc (Nat.le_refl _) o
  have HB := Lib.hid hb
  have S0 := pair_new w (.int .i64 (lo : Int)) (.int .i64 (hi : Int)) 29
  have HL := Lib.hid (fun w1 (hb : Below w.heap.size w w1) => itoaN lo h2 w1 (he.below hb))
  have HH := Lib.hid (fun w1 (hb : Below w.heap.size w w1) => itoaN hi h3 w1 (he.below hb))
  have s1 := dec_len 5 lo (by omega)
  have s2 := dec_len 5 hi (by omega)
  have q1 := run_cat (l := l) (m := dec lo) (by omega)
  have q2 : Op.stringOp .add (str (cat l (dec lo))) ⟨#[32]⟩ = pure (.string (str (cat (cat l (dec lo)) [32]))) := run_cat (l := cat l (dec lo)) (m := [32]) (by rw [cat_len]; simp; omega)
  have q3 := run_cat (l := cat (cat l (dec lo)) [32]) (m := dec hi) (by rw [cat_len, cat_len]; simp; omega)
  clear s1 s2
  clear hb he
  by_cases hz : (lo : Int) = 0 ∧ (hi : Int) = 65535
  · have E : Hid (portT l lo hi = []) := Lib.hid (by unfold portT; rw [if_pos hz])
    have d : decide ((lo : Int) = 0 ∧ (hi : Int) = 65535) = true := decide_eq_true hz
    have r : ∀ w, (binOp .eql 29 (.agg #[.int .i64 (lo : Int), .int .i64 (hi : Int)]) (.agg #[.int .i64 0, .int .i64 65535])).run Tryz.prog w = .ok (.bool true) w := fun w => (rng_eql (lo : Int) (hi : Int) 0 65535 w).trans (by rw [d])
    clear hz d
    go_enter Tryz.func29, Tryz.ntmps29
    go_wp2_with fail
    go_ret
    exact ⟨by rw [E.out]; rfl, HB.out _⟩
  · have E : Hid (portT l lo hi = cat (cat (cat l (dec lo)) [32]) (dec hi)) := Lib.hid (by unfold portT; rw [if_neg hz, Int.toNat_natCast, Int.toNat_natCast])
    have d : decide ((lo : Int) = 0 ∧ (hi : Int) = 65535) = false := decide_eq_false hz
    have r : ∀ w, (binOp .eql 29 (.agg #[.int .i64 (lo : Int), .int .i64 (hi : Int)]) (.agg #[.int .i64 0, .int .i64 65535])).run Tryz.prog w = .ok (.bool false) w := fun w => (rng_eql (lo : Int) (hi : Int) 0 65535 w).trans (by rw [d])
    clear hz d
    go_enter Tryz.func29, Tryz.ntmps29
    go_wp2_with fail
    go_region_held3 (fun w' => w'.cell? ⟨w.heap.size, 0, none⟩ = some (.int .i64 (lo : Int)) ∧ w'.cell? ⟨w.heap.size, 1, none⟩ = some (.int .i64 (hi : Int)) ∧ w.heap.size ≤ w'.heap.size ∧ Below w.heap.size w w') (first | assumption | exact keepPair S0 (belowDrew _) | (refine keepPair ?_ (by assumption); assumption)) (first | (go_at_call 28; with_reducible refine (HL.out _ (And.right (And.right (And.right (by assumption))))).mono ?_; rintro e w' ⟨rfl, hb⟩) | (go_at_call 28; with_reducible refine (HH.out _ (And.right (And.right (And.right (by assumption))))).mono ?_; rintro e w' ⟨rfl, hb⟩))
    rename_i S1
    go_wp2_with fail
    go_ret
    exact ⟨by rw [E.out]; rfl, S1.2.2.2⟩
end Go.Proofs.YtnhemjdmleilcaaGreatDoor
