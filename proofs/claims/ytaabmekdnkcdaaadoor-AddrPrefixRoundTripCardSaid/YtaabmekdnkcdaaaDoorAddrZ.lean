/- Hosts and prefixes read back, in plain words. No condition. -/
import Derived.Test.YtaabmekdnkcdaaaDoorAddrO
import Derived.Test.YtaabmekdnkcdaaaDoorAddrW
namespace Go.Proofs.YtaabmekdnkcdaaaDoor
open Go.RowKit

theorem index_slash_hit {a b : List UInt8} (h : ∀ x ∈ a, (x.toNat : Int) ≠ 47) : Lib.index (a ++ 47 :: b) [47] = a.length := by
  apply Lib.index_first (by simp)
  · unfold Lib.occAt; rw [List.drop_left]; rfl
  · intro j hj
    unfold Lib.occAt
    rw [List.drop_append_of_le_length (by omega)]
    cases hd : a.drop j with
    | nil => have := congrArg List.length hd; simp at this; omega
    | cons c r =>
      have hc : c ∈ a := List.mem_of_mem_drop (by rw [hd]; exact List.mem_cons_self)
      have h2 : c ≠ 47 := fun e => h c hc (by rw [e]; rfl)
      simp [List.isPrefixOf, Ne.symm h2]
theorem dec_noslash (n : Nat) : ∀ x ∈ dec n, (x.toNat : Int) ≠ 47 := fun x hx => by have := dec_digs n x hx; omega
theorem fmt_noslash (a : Nat) : ∀ x ∈ fmtA a, (x.toNat : Int) ≠ 47 := by
  rw [fmtA_eq]
  intro x hx
  simp only [List.mem_append, List.mem_singleton] at hx
  rcases hx with (((((hx | rfl) | hx) | rfl) | hx) | rfl) | hx
  all_goals first
    | exact dec_noslash _ x hx
    | decide
theorem host_back {a : Nat} (ha : a < 4294967296) {n : Int} (h0 : 0 ≤ n) (h1 : n ≤ 32) : hostA (hostF a n) = some (a, n) := by
  unfold hostF
  rw [if_pos ⟨h0, h1⟩, List.append_assoc, List.singleton_append]
  have hi := index_slash_hit (b := dec n.toNat) (fmt_noslash a)
  refine host_yes hi ?_ ?_
  · rw [List.take_left, parse_fmt ha]
  · rw [← List.drop_drop, List.drop_left]
    show numIn (dec n.toNat) 0 32 = some n
    unfold numIn
    rw [numOf_dec _ (by omega)]
    simp only []
    rw [if_pos (by omega)]
    congr 1; omega
theorem host_out {a : Nat} {n : Int} (h : n < 0 ∨ 32 < n) : hostF a n = [] := by
  unfold hostF; rw [if_neg (by omega)]
theorem host_nil : hostA [] = none := by decide +kernel
theorem pfx_nil : pfxA [] = none := by unfold pfxA; rw [host_nil]
theorem pfx_back {p : Nat} (hp : p < 4294967296) {n : Int} (h : validP p n = true) : pfxA (pfxF p n) = some (p, n) := by
  have hv : 0 ≤ n ∧ n ≤ 32 := by
    unfold validP at h
    simp only [Bool.and_eq_true, decide_eq_true_eq] at h
    exact h.1
  unfold pfxF pfxA
  rw [if_pos h, host_back hp hv.1 hv.2]
  simp [h]
theorem pfx_out {p : Nat} {n : Int} (h : validP p n = false) : pfxF p n = [] := by
  unfold pfxF; rw [h]; rfl
theorem host_small (a : Nat) (n : Int) : (str (hostF a n)).size ≤ 1000 := by
  rw [str_size]; unfold hostF
  split
  · have := fmtA_len a
    have := dec_len 2 n.toNat (by omega)
    simp; omega
  · simp
theorem pfx_small (p : Nat) (n : Int) : (str (pfxF p n)).size ≤ 1000 := by
  unfold pfxF
  split
  · exact host_small p n
  · simp [str_size]
theorem host_form {a : Nat} (ha : a < 4294967296) (n : Int) : (0 ≤ n ∧ n ≤ 32 ∧ hostA (hostF a n) = some (a, n)) ∨ ((n < 0 ∨ 32 < n) ∧ hostF a n = []) := by
  by_cases h : 0 ≤ n ∧ n ≤ 32
  · exact .inl ⟨h.1, h.2, host_back ha h.1 h.2⟩
  · exact .inr ⟨by omega, host_out (by omega)⟩
theorem parseHost_back {w : World} (he : Env w) {l : List UInt8} {a : Nat} {n : Int} (h : hostA l = some (a, n)) (hl : (str l).size ≤ 1000) (w1 : World) (hb : Below w.heap.size w w1) :
    Calls Tryd.prog 18 #[.string (str l)] w1 fun e w' => e = .returned (.tuple #[.int .u32 (a : Int), .int .i64 n, .bool true]) ∧ Below w1.heap.size w1 w' := by
  refine (parseHost_any (str l) w1 (he.below hb) (by omega)).mono ?_
  rw [bytes_str, h]
  exact fun e w' h => h
theorem parseHost_nil {w : World} (he : Env w) (w1 : World) (hb : Below w.heap.size w w1) :
    Calls Tryd.prog 18 #[.string (str [])] w1 fun e w' => e = .returned (.tuple #[.int .u32 0, .int .i64 0, .bool false]) ∧ Below w1.heap.size w1 w' := by
  refine (parseHost_any (str []) w1 (he.below hb) (by decide)).mono ?_
  rw [bytes_str, host_nil]
  exact fun e w' h => h
theorem parsePfx_back {w : World} (he : Env w) {l : List UInt8} {a : Nat} {n : Int} (h : pfxA l = some (a, n)) (hl : (str l).size ≤ 1000) (w1 : World) (hb : Below w.heap.size w w1) :
    Calls Tryd.prog 20 #[.string (str l)] w1 fun e w' => e = .returned (.tuple #[.agg #[.int .u32 (a : Int), .int .i64 n], .bool true]) ∧ Below w1.heap.size w1 w' := by
  refine (parsePrefix_any (str l) w1 (he.below hb) (by omega)).mono ?_
  rw [bytes_str, h]
  exact fun e w' h => h
theorem parsePfx_nil {w : World} (he : Env w) (w1 : World) (hb : Below w.heap.size w w1) :
    Calls Tryd.prog 20 #[.string (str [])] w1 fun e w' => e = .returned (.tuple #[.agg #[.int .u32 0, .int .i64 0], .bool false]) ∧ Below w1.heap.size w1 w' := by
  refine (parsePrefix_any (str []) w1 (he.below hb) (by decide)).mono ?_
  rw [bytes_str, pfx_nil]
  exact fun e w' h => h
/-- One box and what lies below, kept behind a call. -/
theorem keepBox {z b : Nat} {w0 w w' : World} {v0 v1 : Value}
    (h : w.cell? ⟨b, 0, none⟩ = some v0 ∧ w.cell? ⟨b, 1, none⟩ = some v1 ∧ z ≤ w.heap.size ∧ Below z w0 w) (hb : Below w.heap.size w w') :
    w'.cell? ⟨b, 0, none⟩ = some v0 ∧ w'.cell? ⟨b, 1, none⟩ = some v1 ∧ z ≤ w'.heap.size ∧ Below z w0 w' := by
  obtain ⟨h1, h2, h5, h6⟩ := h
  exact ⟨(hb.cell (World.block_lt_of_cell? _ _ h1)).trans h1, (hb.cell (World.block_lt_of_cell? _ _ h2)).trans h2, Nat.le_trans h5 hb.size, h6.trans (hb.mono h5)⟩
theorem boxNew (w : World) (a b : Value) (t : TypeId) :
    (w.alloc (.cells #[a, b] t)).cell? ⟨w.heap.size, 0, none⟩ = some a ∧ (w.alloc (.cells #[a, b] t)).cell? ⟨w.heap.size, 1, none⟩ = some b ∧ w.heap.size ≤ (w.alloc (.cells #[a, b] t)).heap.size ∧ Below w.heap.size w (w.alloc (.cells #[a, b] t)) :=
  ⟨new_cell _ _ _ _, new_cell _ _ _ _, by simp, (Below.refl _ w).alloc (Nat.le_refl _) _⟩

end Go.Proofs.YtaabmekdnkcdaaaDoor
