/- The walk of the law AddrContains. Conditions: Env, the library's own tables. -/
import Derived.Test.YtaabmekdnkcdaaaDoorAddrU
namespace Go.Proofs.YtaabmekdnkcdaaaDoor
open Go.RowKit

theorem div_mul_div {d e : Nat} (x : Nat) (hd : 0 < d) (h : d ∣ e) : (x / d * d) / e = x / e := by
  obtain ⟨k, rfl⟩ := h
  rw [← Nat.div_div_eq_div_mul, Nat.mul_div_cancel _ hd, Nat.div_div_eq_div_mul]
theorem cont_up {p : Nat} {n : Int} {q : Nat} {m : Int} {x : Nat} (h : n ≤ m) (hx : contP q m x = true) : contP p n q = contP p n x := by
  unfold contP at *
  have e := of_decide_eq_true hx
  rw [← e, div_mul_div x (sz_pos m) (sz_dvd h)]
theorem cov_in {p : Nat} {n : Int} {q : Nat} {m : Int} {x : Nat} (hc : covP p n q m = true) (hx : contP q m x = true) : contP p n x = true := by
  unfold covP at hc
  simp only [Bool.and_eq_true, decide_eq_true_eq] at hc
  rw [← cont_up hc.1 hx]; exact hc.2
theorem in_over {p : Nat} {n : Int} {q : Nat} {m : Int} {x : Nat} (hi : contP p n x = true) (hx : contP q m x = true) : overP p n q m = true := by
  unfold overP covP
  by_cases h : n ≤ m
  · rw [cont_up h hx, hi]; simp [h]
  · have h2 : m ≤ n := by omega
    rw [cont_up h2 hi, hx]; simp [h2]

theorem box2_new (w : World) (p : Nat) (n : Int) (q : Nat) (m : Int) (t : TypeId) :
    ((w.alloc (.cells #[.int .u32 (p : Int), .int .i64 n] t)).alloc (.cells #[.int .u32 (q : Int), .int .i64 m] t)).cell? ⟨w.heap.size, 0, none⟩ = some (.int .u32 (p : Int)) ∧ ((w.alloc (.cells #[.int .u32 (p : Int), .int .i64 n] t)).alloc (.cells #[.int .u32 (q : Int), .int .i64 m] t)).cell? ⟨w.heap.size, 1, none⟩ = some (.int .i64 n)
      ∧ ((w.alloc (.cells #[.int .u32 (p : Int), .int .i64 n] t)).alloc (.cells #[.int .u32 (q : Int), .int .i64 m] t)).cell? ⟨w.heap.size + 1, 0, none⟩ = some (.int .u32 (q : Int)) ∧ ((w.alloc (.cells #[.int .u32 (p : Int), .int .i64 n] t)).alloc (.cells #[.int .u32 (q : Int), .int .i64 m] t)).cell? ⟨w.heap.size + 1, 1, none⟩ = some (.int .i64 m)
      ∧ w.heap.size ≤ ((w.alloc (.cells #[.int .u32 (p : Int), .int .i64 n] t)).alloc (.cells #[.int .u32 (q : Int), .int .i64 m] t)).heap.size ∧ Below w.heap.size w ((w.alloc (.cells #[.int .u32 (p : Int), .int .i64 n] t)).alloc (.cells #[.int .u32 (q : Int), .int .i64 m] t)) := by
  have e1 : ∀ (o : Obj), (w.alloc o).heap.size = w.heap.size + 1 := fun o => by simp
  refine ⟨?_, ?_, ?_, ?_, by simp; omega, ((Below.refl _ w).alloc (Nat.le_refl _) _).alloc (by simp) _⟩
  · rw [World.cell?_alloc_lt _ _ _ (by simp), new_cell]; rfl
  · rw [World.cell?_alloc_lt _ _ _ (by simp), new_cell]; rfl
  · rw [← e1, new_cell]; rfl
  · rw [← e1, new_cell]; rfl

set_option maxRecDepth 100000 in
set_option maxHeartbeats 4000000 in
theorem addrContains_walk (p : Nat) (n : Int) (q : Nat) (m : Int) (x : Nat) (w : World) (he : Env w) (hp : p < 4294967296) (_ : (Lit.int .i64 n).wf = true) (hq : q < 4294967296) (_ : (Lit.int .i64 m).wf = true) (hx : x < 4294967296) :
    Calls Tryd.prog 7 #[.agg #[.int .u32 (p : Int), .int .i64 n], .agg #[.int .u32 (q : Int), .int .i64 m], .int .u32 (x : Int)] w fun e w' => e = .returned (.bool true) ∧ Below w.heap.size w w' := by
  have HE := Lib.hid he
  clear he
  have H1 := Lib.hid (fun w => rvalid_any p n w hp)
  have H2 := Lib.hid (fun w => rvalid_any q m w hq)
  have H3 := Lib.hid (fun w => contains_any p n x w hx)
  have H4 := Lib.hid (fun w => contains_any q m x w hx)
  have H5 := Lib.hid (fun w => rcontains_any p n x w hx)
  have H6 := Lib.hid (fun w => covers_any p n q m w hq)
  have H7 := Lib.hid (fun w => rcovers_any p n q m w hq)
  have H8 := Lib.hid (fun w => overlaps_any p n q m w hp hq)
  have H9 := Lib.hid (fun w => roverlaps_any p n q m w hp hq)
  have F1 := Lib.hid (fun a b => @cov_in p n q m x a b)
  have F2 := Lib.hid (fun a b => @in_over p n q m x a b)
  unfold PV at H1 H2 H3 H4 H5 H6 H7 H8 H9
  generalize contP p n x = bi at H3 H5 F1 F2
  generalize contP q m x = ba at H4 F1 F2
  generalize covP p n q m = bc at H6 H7 F1 F2
  generalize overP p n q m = bo at H8 H9 F1 F2
  generalize validP p n = v1 at H1
  generalize validP q m = v2 at H2
  have S0 := box2_new w p n q m 32
  cases v1 with
  | false =>
    go_enter Tryd.func7, Tryd.ntmps7
    go_wp2_with fail
    refine (H1.out _).mono ?_
    rintro e w1 ⟨rfl, hb1⟩
    have S1 := keep2 S0 hb1
    clear hb1
    go_wp2_with fail
    go_ret
    exact ⟨rfl, S1.2.2.2.2.2⟩
  | true =>
    cases v2 with
    | false =>
      go_enter Tryd.func7, Tryd.ntmps7
      go_wp2_with fail
      refine (H1.out _).mono ?_
      rintro e w1 ⟨rfl, hb1⟩
      have S1 := keep2 S0 hb1
      clear hb1
      go_wp2_with fail
      refine (H2.out _).mono ?_
      rintro e w2 ⟨rfl, hb2⟩
      have S2 := keep2 S1 hb2
      clear hb2
      go_wp2_with fail
      go_ret
      exact ⟨rfl, S2.2.2.2.2.2⟩
    | true =>
      go_enter Tryd.func7, Tryd.ntmps7
      go_wp2_with fail
      refine (H1.out _).mono ?_
      rintro e w1 ⟨rfl, hb1⟩
      have S1 := keep2 S0 hb1
      clear hb1
      go_wp2_with fail
      refine (H2.out _).mono ?_
      rintro e w2 ⟨rfl, hb2⟩
      have S2 := keep2 S1 hb2
      clear hb2
      clear S0 S1
      go_wp2_with fail
      go_region_held3 (fun w' => w'.cell? ⟨w.heap.size, 0, none⟩ = some (.int .u32 (p : Int)) ∧ w'.cell? ⟨w.heap.size, 1, none⟩ = some (.int .i64 n) ∧ w'.cell? ⟨w.heap.size + 1, 0, none⟩ = some (.int .u32 (q : Int)) ∧ w'.cell? ⟨w.heap.size + 1, 1, none⟩ = some (.int .i64 m) ∧ w.heap.size ≤ w'.heap.size ∧ Below w.heap.size w w') (first | exact keep2 S2 (below_drew _) | (refine keep2 ?_ (by assumption); assumption)) (first | (go_at_call 26; (first | (with_reducible refine (H3.out _).mono ?_) | (with_reducible refine (H4.out _).mono ?_)); rintro e w' ⟨rfl, hb⟩))
      rename_i S3
      clear S2
      go_wp2_with fail
      go_region_held3 (fun w' => w'.cell? ⟨w.heap.size, 0, none⟩ = some (.int .u32 (p : Int)) ∧ w'.cell? ⟨w.heap.size, 1, none⟩ = some (.int .i64 n) ∧ w'.cell? ⟨w.heap.size + 1, 0, none⟩ = some (.int .u32 (q : Int)) ∧ w'.cell? ⟨w.heap.size + 1, 1, none⟩ = some (.int .i64 m) ∧ w.heap.size ≤ w'.heap.size ∧ Below w.heap.size w w') (first | exact keep2 S3 (below_drew _) | (refine keep2 ?_ (by assumption); assumption)) (first | (go_at_call 27; with_reducible refine (H5.out _).mono ?_; rintro e w' ⟨rfl, hb⟩) | (go_at_call 28; with_reducible refine (H6.out _).mono ?_; rintro e w' ⟨rfl, hb⟩) | (go_at_call 29; with_reducible refine (H7.out _).mono ?_; rintro e w' ⟨rfl, hb⟩) | (go_at_call 30; with_reducible refine (H8.out _).mono ?_; rintro e w' ⟨rfl, hb⟩) | (go_at_call 31; with_reducible refine (H9.out _).mono ?_; rintro e w' ⟨rfl, hb⟩))
      rename_i S8
      clear S3
      cases bc <;> cases ba <;> cases bi
      all_goals first
        | (exfalso; have := F1.out rfl rfl; cases this; done)
        | (have hbo := F2.out rfl rfl
           subst hbo
           go_wp2_with fail
           refine (H6.out _).mono ?_
           rintro e w9 ⟨rfl, hb9⟩
           have S9 := keep2 S8 hb9
           clear hb9 S8
           go_wp2_with fail
           refine (H8.out _).mono ?_
           rintro e w10 ⟨rfl, hb10⟩
           have S10 := keep2 S9 hb10
           clear hb10 S9
           go_wp2_with fail
           refine (sane2_env HE.out S10.2.2.2.2.2).mono ?_
           rintro e w11 ⟨rfl, hb11⟩
           have S11 := keep2 S10 hb11
           go_wp2_with fail
           go_ret
           exact ⟨rfl, S11.2.2.2.2.2⟩)
        | (go_wp2_with fail
           refine (H6.out _).mono ?_
           rintro e w9 ⟨rfl, hb9⟩
           have S9 := keep2 S8 hb9
           clear hb9 S8
           go_wp2_with fail
           refine (sane2_env HE.out S9.2.2.2.2.2).mono ?_
           rintro e w11 ⟨rfl, hb11⟩
           have S11 := keep2 S9 hb11
           go_wp2_with fail
           go_ret
           exact ⟨rfl, S11.2.2.2.2.2⟩)
end Go.Proofs.YtaabmekdnkcdaaaDoor
