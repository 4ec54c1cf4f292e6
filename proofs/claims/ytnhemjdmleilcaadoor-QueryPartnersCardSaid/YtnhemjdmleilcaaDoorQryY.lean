/- The walk of the reference's Format. Conditions: addresses are numbers below 2^32; Go's own tables and the words lie below the world's blocks (EnvB). -/
import Derived.Test.YtnhemjdmleilcaaDoorQryN
import Derived.Test.YtnhemjdmleilcaaDoorQryU
import Derived.Test.YtnhemjdmleilcaaDoorQryJ
namespace Go.Proofs.YtnhemjdmleilcaaDoor
open Go.RowKit

/-- Behind a step more may be held than ahead of it. -/
theorem wpAnyH_more {P : Program} {md : Region.Mode} {ops : Array Oper} {Q : Exit → Act → World → Prop} {S S' : World → Prop} (hS : ∀ w, S' w → S w) :
    ∀ (fuel : Nat) (listed : Array Bool) (a : Act) (w : World), wpAnyH P md ops Q S' fuel listed a w → wpAnyH P md ops Q S fuel listed a w
  | 0, _, _, _, h => h
  | fuel + 1, _, _, _, h => ⟨h.1, fun i hi => wpOp_mono (fun a' w' h' => ⟨hS _ h'.1, wpAnyH_more hS fuel _ a' w' h'.2⟩) (h.2 i hi)⟩
def whereT (r i : List UInt8) : List UInt8 := if i.isEmpty then r else cat (cat r bIface) i
theorem where_cat (a b r i : List UInt8) : cat (cat a b) (whereT r i) = cat a (placeT b r i) := by
  unfold whereT placeT
  split <;> simp [cat]
theorem where_any (r i : List UInt8) (w : World) (h2 : r.length ≤ 100) (h3 : i.length ≤ 100) :
    Calls Tryd.prog 57 #[.string (str r), .string (str i)] w fun e w' => e = .returned (.string (str (whereT r i))) ∧ w = w' := by
  have t := toList_str i
  cases i with
  | nil =>
    go_enter Tryd.func57, Tryd.ntmps57
    go_wp2_with fail
    go_ret
    exact ⟨rfl, rfl⟩
  | cons c k =>
    have q1 : Op.stringOp .add (str r) ⟨#[32, 105, 102, 97, 99, 101, 32]⟩ = pure (.string (str (cat r bIface))) := run_cat (m := bIface) (by simp [bIface]; omega)
    have q2 : Op.stringOp .add (str (cat r bIface)) (str (c :: k)) = pure (.string (str (cat (cat r bIface) (c :: k)))) := run_cat (by rw [cat_len]; simp only [bIface, List.length_cons, List.length_nil] at *; omega)
    go_enter Tryd.func57, Tryd.ntmps57
    go_wp2_with fail
    go_ret
    exact ⟨rfl, rfl⟩
theorem decN (m : Nat) (h : m ≤ 65535) (w : World) : Calls Tryd.prog 59 #[.int .i64 (m : Int)] w fun e w' => e = .returned (.string (str (dec m))) ∧ w = w' := decimal_any m w (by omega)
theorem slashed_any (a : Nat) (n : Int) (w : World) (ha : a < 4294967296) : Calls Tryd.prog 84 #[.int .u32 (a : Int), .int .i64 n] w fun e w' => e = .returned (.string (str (hostF a n))) ∧ w = w' := by
  by_cases h0 : n < 0
  · have E : Hid (hostF a n = []) := Lib.hid (by unfold hostF; rw [if_neg (by omega)])
    go_enter Tryd.func84, Tryd.ntmps84
    go_wp2_with fail
    go_ret
    exact ⟨by rw [E.out]; rfl, rfl⟩
  by_cases h1 : 32 < n
  · have E : Hid (hostF a n = []) := Lib.hid (by unfold hostF; rw [if_neg (by omega)])
    go_enter Tryd.func84, Tryd.ntmps84
    go_wp2_with fail
    go_ret
    exact ⟨by rw [E.out]; rfl, rfl⟩
  obtain ⟨m, rfl⟩ := Int.eq_ofNat_of_zero_le (Int.not_lt.1 h0)
  have E : Hid (hostF a m = cat (cat (fmtA a) [47]) (dec m)) := Lib.hid (by unfold hostF; rw [if_pos (by omega), Int.toNat_natCast]; rfl)
  have s0 := fmtA_len a
  have s1 := dec_len 2 m (by omega)
  have q1 : Op.stringOp .add (str (fmtA a)) ⟨#[47]⟩ = pure (.string (str (cat (fmtA a) [47]))) := run_cat (m := [47]) (by simp; omega)
  have q2 : Op.stringOp .add (str (cat (fmtA a) [47])) (str (dec m)) = pure (.string (str (cat (cat (fmtA a) [47]) (dec m)))) := run_cat (by rw [cat_len]; simp; omega)
  have d0 : decide ((m : Int) < 0) = false := by simp
  have d1 : decide ((32 : Int) < m) = false := by simp; omega
  have HD := Lib.hid (decN m (by omega) w)
  clear s0 s1
  go_enter Tryd.func84, Tryd.ntmps84
  go_wp2_with fail
  refine (dotted_any a _ ha).mono ?_
  rintro e w1 ⟨rfl, rfl⟩
  go_wp2_with fail
  refine HD.out.mono ?_
  rintro e w2 ⟨rfl, rfl⟩
  go_wp2_with fail
  go_ret
  exact ⟨by rw [E.out]; rfl, rfl⟩
set_option maxHeartbeats 1000000 in
theorem written_any (p : Nat) (n : Int) (w : World) (hp : p < 4294967296) : Calls Tryd.prog 58 #[.agg #[.int .u32 (p : Int), .int .i64 n]] w fun e w' => e = .returned (.string (str (pfxF p n))) ∧ Below w.heap.size w w' := by
  have C1 := fun w => rvalid_any p n w hp
  unfold PV at C1
  have H1 := Lib.hid C1
  clear C1
  cases hv : validP p n with
  | false =>
    have E : Hid (pfxF p n = []) := Lib.hid (by unfold pfxF; rw [hv]; rfl)
    go_enter Tryd.func58, Tryd.ntmps58
    go_wp2_with fail
    refine (H1.out _).mono ?_
    rintro e w1 ⟨rfl, hb1⟩
    have hb : Below w.heap.size w w1 := ((Below.refl _ w).alloc (Nat.le_refl _) _).trans (hb1.mono (by simp))
    clear hb1
    go_wp2_with fail
    go_ret
    exact ⟨by rw [E.out]; rfl, hb⟩
  | true =>
    have E : Hid (pfxF p n = hostF p n) := Lib.hid (by unfold pfxF; rw [hv]; rfl)
    have HS := Lib.hid (fun w => slashed_any p n w hp)
    go_enter Tryd.func58, Tryd.ntmps58
    go_wp2_with fail
    refine (H1.out _).mono ?_
    rintro e w1 ⟨rfl, hb1⟩
    have hb : Below w.heap.size w w1 := ((Below.refl _ w).alloc (Nat.le_refl _) _).trans (hb1.mono (by simp))
    have c0 : w1.cell? ⟨w.heap.size, 0, none⟩ = some (.int .u32 (p : Int)) := (hb1.cell (p := ⟨w.heap.size, 0, none⟩) (by simp)).trans (new_cell _ _ _ _)
    have c1 : w1.cell? ⟨w.heap.size, 1, none⟩ = some (.int .i64 n) := (hb1.cell (p := ⟨w.heap.size, 1, none⟩) (by simp)).trans (new_cell _ _ _ _)
    clear hb1
    go_wp2_with fail
    refine (HS.out _).mono ?_
    rintro e w2 ⟨rfl, rfl⟩
    go_wp2_with fail
    go_ret
    exact ⟨by rw [E.out]; rfl, hb⟩
theorem rng_neq (a b c d : Int) (w : World) : (binOp .neq 26 (.agg #[.int .i64 a, .int .i64 b]) (.agg #[.int .i64 c, .int .i64 d])).run Tryd.prog w = .ok (.bool (!decide (a = c ∧ b = d))) w := by
  have hp := Tryd.rngStood
  by_cases h1 : a = c
  · subst h1
    by_cases h2 : b = d
    · subst h2
      simp [go_sem, hp]
    · have h3 : (b == d) = false := by simp [h2]
      simp [go_sem, hp, h2, h3]
  · have h2 : (a == c) = false := by simp [h1]
    simp [go_sem, hp, h1, h2]
/-- The range of all ports? -/
def allP (lo hi : Int) : Bool := decide (lo = 0 ∧ hi = 65535)
theorem all_field3 (w : World) : (Instr.field 28 (.agg #[.int .u32 0, .int .i64 0, .int .u32 0, .int .i64 0, .int .i64 (-1), .int .i64 0, .int .i64 65535, .int .i64 0, .int .i64 65535]) 3).run Tryd.prog w = .ok (.agg #[.int .i64 0, .int .i64 65535]) w := by kernel_rfl
theorem all_field4 (w : World) : (Instr.field 28 (.agg #[.int .u32 0, .int .i64 0, .int .u32 0, .int .i64 0, .int .i64 (-1), .int .i64 0, .int .i64 65535, .int .i64 0, .int .i64 65535]) 4).run Tryd.prog w = .ok (.agg #[.int .i64 0, .int .i64 65535]) w := by kernel_rfl
/-- The zero prefix lies in block b beside. -/
def FZ (q : Qr) (w0 : World) (b : Nat) (w : World) : Prop := FM q w0 w ∧ w.cell? ⟨b, 0, none⟩ = some (.int .u32 0) ∧ w.cell? ⟨b, 1, none⟩ = some (.int .i64 0)
theorem FZ.keep {q : Qr} {w0 w w' : World} {b : Nat} (h : FZ q w0 b w) (hb : Below w.heap.size w w') : FZ q w0 b w' :=
  ⟨h.1.keep hb, (hb.cell (World.block_lt_of_cell? _ _ h.2.1)).trans h.2.1, (hb.cell (World.block_lt_of_cell? _ _ h.2.2)).trans h.2.2⟩
theorem FM.zero {q : Qr} {w0 w : World} (h : FM q w0 w) (t : TypeId) : FZ q w0 w.heap.size (w.alloc (.cells #[.int .u32 0, .int .i64 0] t)) :=
  ⟨h.new _, new_cell _ _ _ _, new_cell _ _ _ _⟩
theorem keepF2 {q : Qr} {w0 w w' : World} {a0 a1 : Addr} {v0 v1 : Value} (h : w.cell? a0 = some v0 ∧ w.cell? a1 = some v1 ∧ FM q w0 w) (hb : Below w.heap.size w w') : w'.cell? a0 = some v0 ∧ w'.cell? a1 = some v1 ∧ FM q w0 w' := by
  obtain ⟨h0, h1, hf⟩ := h
  exact ⟨(hb.cell (World.block_lt_of_cell? _ _ h0)).trans h0, (hb.cell (World.block_lt_of_cell? _ _ h1)).trans h1, hf.keep hb⟩
theorem keepF3 {q : Qr} {w0 w w' : World} {a0 a1 a2 : Addr} {v0 v1 v2 : Value} (h : w.cell? a0 = some v0 ∧ w.cell? a1 = some v1 ∧ w.cell? a2 = some v2 ∧ FM q w0 w) (hb : Below w.heap.size w w') : w'.cell? a0 = some v0 ∧ w'.cell? a1 = some v1 ∧ w'.cell? a2 = some v2 ∧ FM q w0 w' := by
  obtain ⟨h0, h1, h2, hf⟩ := h
  exact ⟨(hb.cell (World.block_lt_of_cell? _ _ h0)).trans h0, (hb.cell (World.block_lt_of_cell? _ _ h1)).trans h1, (hb.cell (World.block_lt_of_cell? _ _ h2)).trans h2, hf.keep hb⟩
theorem wc_word {k : Int} (h1 : 1 ≤ k) (h2 : k ≤ 6) : WC[k.toNat]? = some (.string (str (kindT k))) := by
  have : k = 1 ∨ k = 2 ∨ k = 3 ∨ k = 4 ∨ k = 5 ∨ k = 6 := by omega
  rcases this with rfl | rfl | rfl | rfl | rfl | rfl <;> rfl
/-- The ports, section by section. -/
def fm6s (q : Qr) : List UInt8 := cat (fm6 q) (portT bSport q.slo q.shi)
theorem fm7_two (q : Qr) : fm7 q = cat (fm6s q) (portT bDport q.dlo q.dhi) := by simp [fm7, fm6s, cat]
theorem fm6s_len {q : Qr} (h : Okq q) : (fm6s q).length ≤ 700 := by
  have := fm7_len h
  rw [fm7_two, cat_len] at this
  omega

set_option maxRecDepth 100000 in
set_option maxHeartbeats 4000000 in
theorem rqformat_any (q : Qr) (w : World) (hq : q.fit) : Calls Tryd.prog 17 #[QV q] w (FPost q w) := by
  have H0 : Hid (FM q w (w.alloc (.cells (QC q) 30))) := Lib.hid ⟨heap_alloc_new w _, (Below.refl w.heap.size w).alloc (Nat.le_refl _) _⟩
  have HQ := Lib.hid hq
  rw [QV_eq]
  by_cases hv : validE q = 0
  case neg =>
    have hn : (validE q != 0) = true := by simpa using hv
    have F0 : Hid (fmtQ q = []) := Lib.hid (by unfold fmtQ; rw [if_neg hv])
    clear hv hq
    go_enter Tryd.func17, Tryd.ntmps17
    go_wp2_with (first | (refine wpList_loadQ rfl _ rfl rfl H0.out.1 ?_))
    refine (rqvalid_any q _ HQ.out).mono ?_
    rintro e w1 ⟨rfl, hb⟩
    have H1 := Lib.hid (H0.out.keep hb)
    clear hb
    go_wp2_with fail
    go_ret2
    exact fpost rfl F0.out H1.out.2
  have O := Lib.hid (okq hv)
  have V := Lib.hid hv
  have F0 : Hid (fmtQ q = fm8 q) := Lib.hid (by unfold fmtQ; rw [if_pos hv])
  clear hv hq
  go_enter Tryd.func17, Tryd.ntmps17
  go_wp2_with (first | (refine wpList_loadQ rfl _ rfl rfl H0.out.1 ?_))
  refine (rqvalid_any q _ HQ.out).mono ?_
  rintro e w1 ⟨rfl, hb⟩
  have H1 := Lib.hid (H0.out.keep hb)
  clear hb H0
  rw [V.out]
  go_upto_region 4 with fail
  go_cut [5] (fun s wx => s = .string (str (fm1 q)) ∧ FM q w wx)
  case first =>
    have P1 : Hid (∀ w1, Calls Tryd.prog 57 #[.string (str q.fr), .string (str q.fi)] w1 fun e w' => e = .returned (.string (str (whereT q.fr q.fi))) ∧ w1 = w') := Lib.hid (fun w1 => where_any q.fr q.fi w1 (Nat.le_trans (nameB_len O.out.fr) (by omega)) (Nat.le_trans (optB_len O.out.fi) (by omega)))
    have PW := Lib.hid (fun w1 => words_any w1)
    have E : Hid (fm1 q = cat (cat (kindT q.kind) bFrom) (whereT q.fr q.fi)) := Lib.hid (where_cat _ _ _ _).symm
    have q1 : Op.stringOp .add (str (kindT q.kind)) ⟨#[32, 102, 114, 111, 109, 32]⟩ = pure (.string (str (cat (kindT q.kind) bFrom))) := run_cat (m := bFrom) (by have := fm1_len O.out; rw [E.out, cat_len, cat_len] at this; omega)
    have q2 : Op.stringOp .add (str (cat (kindT q.kind) bFrom)) (str (whereT q.fr q.fi)) = pure (.string (str (cat (cat (kindT q.kind) bFrom) (whereT q.fr q.fi)))) := run_cat (by have := fm1_len O.out; rw [E.out, cat_len] at this; omega)
    obtain ⟨k, hk, hk1, hk6⟩ : ∃ k : Nat, q.kind = (k : Int) ∧ 1 ≤ k ∧ k ≤ 6 := ⟨q.kind.toNat, by have := O.out.k1; omega, by have := O.out.k1; omega, by have := O.out.k1; have := O.out.k2; omega⟩
    have HW : Hid (WC[k]? = some (.string (str (kindT q.kind)))) := Lib.hid (by have := wc_word O.out.k1 O.out.k2; rwa [show q.kind.toNat = k from by omega] at this)
    have S0 : w1.cell? ⟨w.heap.size, 0, none⟩ = some (.int .i64 (k : Int)) ∧ w1.cell? ⟨w.heap.size, 1, none⟩ = some (.string (str q.fr)) ∧ w1.cell? ⟨w.heap.size, 2, none⟩ = some (.string (str q.fi)) ∧ FM q w w1 := ⟨by rw [← hk]; exact H1.out.1.cell 0, H1.out.1.cell 1, H1.out.1.cell 2, H1.out⟩
    have k7 : (k : Int) < 7 := by omega
    clear hk
    refine wp_region_held_drew (S := fun w' => w'.cell? ⟨w.heap.size, 0, none⟩ = some (.int .i64 (k : Int)) ∧ w'.cell? ⟨w.heap.size, 1, none⟩ = some (.string (str q.fr)) ∧ w'.cell? ⟨w.heap.size, 2, none⟩ = some (.string (str q.fi)) ∧ FM q w w') (by kernel_rfl) (keepF3 S0 (belowDrew _)) (fun hHeld => ?_)
    refine wpAnyH_take (i := 1) (oi := { dst := some 13, op := Op.fieldAddr 30 (Operand.tmp 1) 0, type := 0, pos := "ref.go:208", after := #[], guard := none }) (v := ?_) rfl (by kernel_rfl) (by kernel_rfl) (by kernel_rfl) (fun _ _ _ h => h) (Or.inl ⟨by rfl, ?_⟩) (by assumption) ?_
    rotate_left
    · (intro w hSw; (try dsimp only at hSw); go_simp; try with_reducible rfl)
    try simp only [Act.put, List.setIfInBounds_toArray, List.set_cons_zero, List.set_cons_succ]
    refine wpAnyH_take (i := 2) (oi := { dst := some 14, op := Op.load 3 (Operand.tmp 13), type := 3, pos := "ref.go:208", after := #[{ on := 1, ground := Ground.data }], guard := none }) (v := ?_) rfl (by kernel_rfl) (by kernel_rfl) (by kernel_rfl) (fun _ _ _ h => h) (Or.inl ⟨by rfl, ?_⟩) (by assumption) ?_
    rotate_left
    · (intro w hSw; (try dsimp only at hSw); go_simp; try with_reducible rfl)
    try simp only [Act.put, List.setIfInBounds_toArray, List.set_cons_zero, List.set_cons_succ]
    refine wpAnyH_take (i := 6) (oi := { dst := some 18, op := Op.fieldAddr 30 (Operand.tmp 1) 1, type := 0, pos := "ref.go:208", after := #[], guard := none }) (v := ?_) rfl (by kernel_rfl) (by kernel_rfl) (by kernel_rfl) (fun _ _ _ h => h) (Or.inl ⟨by rfl, ?_⟩) (by assumption) ?_
    rotate_left
    · (intro w hSw; (try dsimp only at hSw); go_simp; try with_reducible rfl)
    try simp only [Act.put, List.setIfInBounds_toArray, List.set_cons_zero, List.set_cons_succ]
    refine wpAnyH_take (i := 7) (oi := { dst := some 19, op := Op.load 9 (Operand.tmp 18), type := 9, pos := "ref.go:208", after := #[{ on := 6, ground := Ground.data }], guard := none }) (v := ?_) rfl (by kernel_rfl) (by kernel_rfl) (by kernel_rfl) (fun _ _ _ h => h) (Or.inl ⟨by rfl, ?_⟩) (by assumption) ?_
    rotate_left
    · (intro w hSw; (try dsimp only at hSw); go_simp; try with_reducible rfl)
    try simp only [Act.put, List.setIfInBounds_toArray, List.set_cons_zero, List.set_cons_succ]
    refine wpAnyH_take (i := 8) (oi := { dst := some 20, op := Op.fieldAddr 30 (Operand.tmp 1) 2, type := 0, pos := "ref.go:208", after := #[], guard := none }) (v := ?_) rfl (by kernel_rfl) (by kernel_rfl) (by kernel_rfl) (fun _ _ _ h => h) (Or.inl ⟨by rfl, ?_⟩) (by assumption) ?_
    rotate_left
    · (intro w hSw; (try dsimp only at hSw); go_simp; try with_reducible rfl)
    try simp only [Act.put, List.setIfInBounds_toArray, List.set_cons_zero, List.set_cons_succ]
    refine wpAnyH_take (i := 9) (oi := { dst := some 21, op := Op.load 9 (Operand.tmp 20), type := 9, pos := "ref.go:208", after := #[{ on := 8, ground := Ground.data }], guard := none }) (v := ?_) rfl (by kernel_rfl) (by kernel_rfl) (by kernel_rfl) (fun _ _ _ h => h) (Or.inl ⟨by rfl, ?_⟩) (by assumption) ?_
    rotate_left
    · (intro w hSw; (try dsimp only at hSw); go_simp; try with_reducible rfl)
    try simp only [Act.put, List.setIfInBounds_toArray, List.set_cons_zero, List.set_cons_succ]
    refine wpAnyH_ready (rs := [0]) (by kernel_rfl) (by simp) ?_
    refine AllReadyH.cons (o := { dst := some 12, op := Op.call { callee := Callee.value (Operand.func 46), args := #[], argTypes := #[] }, type := 42, pos := "ref.go:208", after := #[], guard := none }) rfl (fun K hK => ?_) AllReadyH.nil
    go_simp
    refine (PW.out _).mono ?_
    rintro e w5 ⟨rfl, rfl⟩
    refine hK.out _ _ (keepF3 hHeld ((Below.refl _ _).alloc (Nat.le_refl _) _)) (fun hHeld2 => ?_)
    clear hK K
    try simp only [Act.put, List.setIfInBounds_toArray, List.set_cons_zero, List.set_cons_succ]
    have cW : (w1.drew.alloc (.cells WC 9)).cell? ⟨w1.heap.size, k, none⟩ = some (.string (str (kindT q.kind))) := (new_cell _ _ _ _).trans HW.out
    generalize hw5 : w1.drew.alloc (.cells WC 9) = w5 at hHeld2 cW ⊢
    clear hw5
    refine wpAnyH_more (S' := fun w' => w'.cell? ⟨w1.heap.size, k, none⟩ = some (.string (str (kindT q.kind))) ∧ w'.cell? ⟨w.heap.size, 0, none⟩ = some (.int .i64 (k : Int)) ∧ w'.cell? ⟨w.heap.size, 1, none⟩ = some (.string (str q.fr)) ∧ w'.cell? ⟨w.heap.size, 2, none⟩ = some (.string (str q.fi)) ∧ FM q w w') (fun _ h => h.2) _ _ _ _ ?_
    have hHeld3 := And.intro cW hHeld2
    clear hHeld2 cW
    refine wpAnyH_take (i := 3) (oi := { dst := some 15, op := Op.indexAddr 42 (Operand.tmp 12) (Operand.tmp 14), type := 0, pos := "ref.go:208", after := #[{ on := 0, ground := Ground.data }, { on := 2, ground := Ground.data }], guard := none }) (v := ?_) rfl (by kernel_rfl) (by kernel_rfl) (by kernel_rfl) (fun _ _ _ h => h) (Or.inl ⟨by rfl, ?_⟩) (by assumption) ?_
    rotate_left
    · (intro w hSw; (try dsimp only at hSw); go_simp; try with_reducible rfl)
    try simp only [Act.put, List.setIfInBounds_toArray, List.set_cons_zero, List.set_cons_succ]
    refine wpAnyH_take (i := 4) (oi := { dst := some 16, op := Op.load 9 (Operand.tmp 15), type := 9, pos := "ref.go:208", after := #[{ on := 3, ground := Ground.data }], guard := none }) (v := ?_) rfl (by kernel_rfl) (by kernel_rfl) (by kernel_rfl) (fun _ _ _ h => h) (Or.inl ⟨by rfl, ?_⟩) (by assumption) ?_
    rotate_left
    · (intro w hSw; (try dsimp only at hSw); go_simp; try with_reducible rfl)
    try simp only [Act.put, List.setIfInBounds_toArray, List.set_cons_zero, List.set_cons_succ]
    refine wpAnyH_take (i := 5) (oi := { dst := some 17, op := Op.binOp BinOp.add 9 (Operand.tmp 16) (Operand.const (Value.string { data := #[32, 102, 114, 111, 109, 32] })) 9, type := 9, pos := "ref.go:208", after := #[{ on := 4, ground := Ground.data }], guard := none }) (v := ?_) rfl (by kernel_rfl) (by kernel_rfl) (by kernel_rfl) (fun _ _ _ h => h) (Or.inl ⟨by rfl, ?_⟩) (by assumption) ?_
    rotate_left
    · (intro w hSw; (try dsimp only at hSw); go_simp; try with_reducible rfl)
    try simp only [Act.put, List.setIfInBounds_toArray, List.set_cons_zero, List.set_cons_succ]
    refine wpAnyH_ready (rs := [10]) (by kernel_rfl) (by simp) ?_
    refine AllReadyH.cons (o := { dst := some 22, op := Op.call { callee := Callee.value (Operand.func 57), args := #[Operand.tmp 19, Operand.tmp 21], argTypes := #[9, 9] }, type := 9, pos := "ref.go:208", after := #[{ on := 7, ground := Ground.data }, { on := 9, ground := Ground.data }, { on := 0, ground := Ground.chain }], guard := none }) rfl (fun K hK => ?_) AllReadyH.nil
    go_simp
    refine (P1.out _).mono ?_
    rintro e w6 ⟨rfl, rfl⟩
    refine hK.out _ _ hHeld3 (fun hHeld4 => ?_)
    clear hK K
    try simp only [Act.put, List.setIfInBounds_toArray, List.set_cons_zero, List.set_cons_succ]
    refine wpAnyH_take (i := 11) (oi := { dst := some 23, op := Op.binOp BinOp.add 9 (Operand.tmp 17) (Operand.tmp 22) 9, type := 9, pos := "ref.go:208", after := #[{ on := 5, ground := Ground.data }, { on := 10, ground := Ground.data }], guard := none }) (v := ?_) rfl (by kernel_rfl) (by kernel_rfl) (by kernel_rfl) (fun _ _ _ h => h) (Or.inl ⟨by rfl, ?_⟩) (by assumption) ?_
    rotate_left
    · (intro w hSw; (try dsimp only at hSw); go_simp; try with_reducible rfl)
    try simp only [Act.put, List.setIfInBounds_toArray, List.set_cons_zero, List.set_cons_succ]
    refine wpAnyH_take (i := 12) (oi := { dst := some 5, op := Op.assign (Operand.tmp 23), type := 9, pos := "ref.go:208", after := #[{ on := 11, ground := Ground.data }, { on := 10, ground := Ground.chain }, { on := 0, ground := Ground.phase }, { on := 1, ground := Ground.phase }, { on := 2, ground := Ground.phase }, { on := 3, ground := Ground.phase }, { on := 4, ground := Ground.phase }, { on := 5, ground := Ground.phase }, { on := 6, ground := Ground.phase }, { on := 7, ground := Ground.phase }, { on := 8, ground := Ground.phase }, { on := 9, ground := Ground.phase }, { on := 10, ground := Ground.phase }, { on := 11, ground := Ground.phase }], guard := none }) (v := ?_) rfl (by kernel_rfl) (by kernel_rfl) (by kernel_rfl) (fun _ _ _ h => h) (Or.inl ⟨by rfl, ?_⟩) (by assumption) ?_
    rotate_left
    · (intro w hSw; (try dsimp only at hSw); go_simp; try with_reducible rfl)
    try simp only [Act.put, List.setIfInBounds_toArray, List.set_cons_zero, List.set_cons_succ]
    refine wpAnyH_done (by kernel_rfl) ?_ _
    go_wp2_with fail
    go_meet
    exact ⟨by rw [E.out], hHeld3.2.2.2.2⟩
  case rest =>
  obtain ⟨rfl, hF⟩ := hcut
  have H2 := Lib.hid hF
  clear hF H1
  have c0 : wc.cell? ⟨w.heap.size, 0, none⟩ = some (.int .i64 q.kind) := H2.out.1.cell 0
  go_wp2_with fail
  refine (raimed_any _ _).mono ?_
  rintro e w' ⟨rfl, rfl⟩
  clear c0
  go_upto_if 26 with fail
  go_cut [5] (fun s wx => s = .string (str (fm2 q)) ∧ FM q w wx)
  case first =>
    cases ha : aimedB q.kind with
    | true =>
      have E : Hid (fm2 q = cat (cat (fm1 q) bTo) (whereT q.tr q.ti)) := Lib.hid ((if_pos ha).trans (where_cat _ _ _ _).symm)
      have q1 : Op.stringOp .add (str (fm1 q)) ⟨#[32, 116, 111, 32]⟩ = pure (.string (str (cat (fm1 q) bTo))) := run_cat (m := bTo) (by have := fm2_len O.out; rw [E.out, cat_len, cat_len] at this; omega)
      have q2 : Op.stringOp .add (str (cat (fm1 q) bTo)) (str (whereT q.tr q.ti)) = pure (.string (str (cat (cat (fm1 q) bTo) (whereT q.tr q.ti)))) := run_cat (by have := fm2_len O.out; rw [E.out, cat_len] at this; omega)
      have P1 : Hid (∀ w1, Calls Tryd.prog 57 #[.string (str q.tr), .string (str q.ti)] w1 fun e w' => e = .returned (.string (str (whereT q.tr q.ti))) ∧ w1 = w') := Lib.hid (fun w1 => where_any q.tr q.ti w1 (Nat.le_trans O.out.tr15.1 (by omega)) (Nat.le_trans O.out.tr15.2 (by omega)))
      have c3 : wc.cell? ⟨w.heap.size, 3, none⟩ = some (.string (str q.tr)) := H2.out.1.cell 3
      have c4 : wc.cell? ⟨w.heap.size, 4, none⟩ = some (.string (str q.ti)) := H2.out.1.cell 4
      clear ha
      go_wp2_with fail
      refine (P1.out _).mono ?_
      rintro e w' ⟨rfl, rfl⟩
      go_wp2_with fail
      go_meet
      exact ⟨by rw [E.out], H2.out⟩
    | false =>
      have E : Hid (fm2 q = fm1 q) := Lib.hid (if_neg (by rw [ha]; simp))
      clear ha
      go_wp2_with fail
      go_meet
      exact ⟨by rw [E.out], H2.out⟩
  case rest =>
  obtain ⟨rfl, hF⟩ := hcut
  have H3 := Lib.hid hF
  clear hF H2
  have c0 : wc.cell? ⟨w.heap.size, 0, none⟩ = some (.int .i64 q.kind) := H3.out.1.cell 0
  go_upto_if 37 with fail
  go_cut [5] (fun s wx => s = .string (str (if q.kind = 3 then cat (fm2 q) (cat bVia q.via) else fm2 q)) ∧ FM q w wx)
  case first =>
    by_cases h3 : q.kind = 3
    · have E3 : Hid (fm3 q = cat (fm2 q) (cat bVia q.via)) := Lib.hid (if_pos h3)
      have E : Hid ((if q.kind = 3 then cat (fm2 q) (cat bVia q.via) else fm2 q) = cat (cat (fm2 q) bVia) q.via) := Lib.hid ((if_pos h3).trans (by simp [cat]))
      have q1 : Op.stringOp .add (str (fm2 q)) ⟨#[32, 118, 105, 97, 32]⟩ = pure (.string (str (cat (fm2 q) bVia))) := run_cat (m := bVia) (by have := fm3_len O.out; rw [E3.out, cat_len, cat_len] at this; omega)
      have q2 : Op.stringOp .add (str (cat (fm2 q) bVia)) (str q.via) = pure (.string (str (cat (cat (fm2 q) bVia) q.via))) := run_cat (by have := fm3_len O.out; rw [E3.out, cat_len, cat_len] at this; rw [cat_len]; omega)
      have d3 : (q.kind == 3) = true := by simpa using h3
      have c5 : wc.cell? ⟨w.heap.size, 5, none⟩ = some (.string (str q.via)) := H3.out.1.cell 5
      clear h3
      go_wp2_with fail
      go_meet
      exact ⟨by rw [E.out], H3.out⟩
    · have E : Hid ((if q.kind = 3 then cat (fm2 q) (cat bVia q.via) else fm2 q) = fm2 q) := Lib.hid (if_neg h3)
      have d3 : (q.kind == 3) = false := by simpa using h3
      clear h3
      go_wp2_with fail
      go_meet
      exact ⟨by rw [E.out], H3.out⟩
  case rest =>
  clear c0
  obtain ⟨rfl, hF⟩ := hcut
  have H4 := Lib.hid hF
  clear hF H3
  have c0 : wc.cell? ⟨w.heap.size, 0, none⟩ = some (.int .i64 q.kind) := H4.out.1.cell 0
  go_upto_if 45 with fail
  go_cut [5] (fun s wx => s = .string (str (fm3 q)) ∧ FM q w wx)
  case first =>
    by_cases h6 : q.kind = 6
    · have h3 : ¬ q.kind = 3 := by omega
      rw [if_neg h3]
      have E3 : Hid (fm3 q = cat (fm2 q) (cat (cat (cat bLeft (pfxF q.la q.ll)) bRight) (pfxF q.ra q.rl))) := Lib.hid ((if_neg h3).trans (if_pos h6))
      have E : Hid (fm3 q = cat (cat (cat (cat (fm2 q) bLeft) (pfxF q.la q.ll)) bRight) (pfxF q.ra q.rl)) := Lib.hid (E3.out.trans (by simp [cat]))
      have q1 : Op.stringOp .add (str (fm2 q)) ⟨#[32, 108, 101, 102, 116, 32]⟩ = pure (.string (str (cat (fm2 q) bLeft))) := run_cat (m := bLeft) (by have := fm3_len O.out; rw [E.out, cat_len, cat_len, cat_len, cat_len] at this; omega)
      have q2 : Op.stringOp .add (str (cat (fm2 q) bLeft)) (str (pfxF q.la q.ll)) = pure (.string (str (cat (cat (fm2 q) bLeft) (pfxF q.la q.ll)))) := run_cat (by have := fm3_len O.out; rw [E.out, cat_len, cat_len, cat_len] at this; omega)
      have q3 : Op.stringOp .add (str (cat (cat (fm2 q) bLeft) (pfxF q.la q.ll))) ⟨#[32, 114, 105, 103, 104, 116, 32]⟩ = pure (.string (str (cat (cat (cat (fm2 q) bLeft) (pfxF q.la q.ll)) bRight))) := run_cat (m := bRight) (by have := fm3_len O.out; rw [E.out, cat_len, cat_len] at this; omega)
      have q4 : Op.stringOp .add (str (cat (cat (cat (fm2 q) bLeft) (pfxF q.la q.ll)) bRight)) (str (pfxF q.ra q.rl)) = pure (.string (str (cat (cat (cat (cat (fm2 q) bLeft) (pfxF q.la q.ll)) bRight) (pfxF q.ra q.rl)))) := run_cat (by have := fm3_len O.out; rw [E.out, cat_len] at this; omega)
      have d6 : (q.kind == 6) = true := by simpa using h6
      have PL : Hid (∀ w1, Calls Tryd.prog 58 #[.agg #[.int .u32 (q.la : Int), .int .i64 q.ll]] w1 fun e w' => e = .returned (.string (str (pfxF q.la q.ll))) ∧ Below w1.heap.size w1 w') := Lib.hid (fun w1 => written_any q.la q.ll w1 HQ.out.1)
      have PR : Hid (∀ w1, Calls Tryd.prog 58 #[.agg #[.int .u32 (q.ra : Int), .int .i64 q.rl]] w1 fun e w' => e = .returned (.string (str (pfxF q.ra q.rl))) ∧ Below w1.heap.size w1 w') := Lib.hid (fun w1 => written_any q.ra q.rl w1 HQ.out.2.1)
      have S0 : wc.cell? ⟨w.heap.size, 6, none⟩ = some (.int .u32 (q.la : Int)) ∧ wc.cell? ⟨w.heap.size, 7, none⟩ = some (.int .i64 q.ll) ∧ wc.cell? ⟨w.heap.size, 8, none⟩ = some (.int .u32 (q.ra : Int)) ∧ wc.cell? ⟨w.heap.size, 9, none⟩ = some (.int .i64 q.rl) ∧ FM q w wc := ⟨H4.out.1.cell 6, H4.out.1.cell 7, H4.out.1.cell 8, H4.out.1.cell 9, H4.out⟩
      clear h3 h6
      go_wp2_with fail
      go_region_held3 (fun w' => w'.cell? ⟨w.heap.size, 6, none⟩ = some (.int .u32 (q.la : Int)) ∧ w'.cell? ⟨w.heap.size, 7, none⟩ = some (.int .i64 q.ll) ∧ w'.cell? ⟨w.heap.size, 8, none⟩ = some (.int .u32 (q.ra : Int)) ∧ w'.cell? ⟨w.heap.size, 9, none⟩ = some (.int .i64 q.rl) ∧ FM q w w') (first | assumption | exact keepF4 S0 (belowDrew _) | (refine keepF4 ?_ (by assumption); assumption)) (first | (go_at_call 58; with_reducible refine (PL.out _).mono ?_; rintro e w' ⟨rfl, hb⟩) | (go_at_call 58; with_reducible refine (PR.out _).mono ?_; rintro e w' ⟨rfl, hb⟩))
      rename_i S1
      clear S0
      go_wp2_with fail
      go_meet
      exact ⟨by rw [E.out], S1.2.2.2.2⟩
    · have E : Hid ((if q.kind = 3 then cat (fm2 q) (cat bVia q.via) else fm2 q) = fm3 q) := Lib.hid (by unfold fm3; rw [if_neg h6])
      have d6 : (q.kind == 6) = false := by simpa using h6
      rw [E.out]
      clear h6
      go_wp2_with fail
      go_meet
      exact ⟨rfl, H4.out⟩
  case rest =>
  clear c0
  obtain ⟨rfl, hF⟩ := hcut
  have H5 := Lib.hid hF
  clear hF H4
  have HZ := Lib.hid (FM.zero H5.out 24)
  clear H5
  go_upto_region 12 with fail
  generalize hB : wc.heap.size = B at HZ ⊢
  generalize hx0 : wc.alloc (.cells #[.int .u32 0, .int .i64 0] 24) = wx0 at HZ ⊢
  clear hB hx0
  have z0 : wx0.cell? ⟨B, 0, none⟩ = some (.int .u32 0) := HZ.out.2.1
  have z1 : wx0.cell? ⟨B, 1, none⟩ = some (.int .i64 0) := HZ.out.2.2
  have c10 : wx0.cell? ⟨w.heap.size, 10, none⟩ = some (.int .u32 (q.sa : Int)) := HZ.out.1.1.cell 10
  have c11 : wx0.cell? ⟨w.heap.size, 11, none⟩ = some (.int .i64 q.sl) := HZ.out.1.1.cell 11
  have g := Tryd.pfxGuard
  have r : ∀ w, (binOp .neq 24 (.agg #[.int .u32 (q.sa : Int), .int .i64 q.sl]) (.agg #[.int .u32 0, .int .i64 0])).run Tryd.prog w = .ok (.bool (!zeroP q.sa q.sl)) w := fun w => (pfx_neq q.sa 0 q.sl 0 w).trans (by rw [show decide (q.sa = 0 ∧ q.sl = 0) = zeroP q.sa q.sl from by rw [Bool.eq_iff_iff]; simp [zeroP]])
  go_upto_if 61 with fail
  go_cut [5] (fun s wx => s = .string (str (fm4 q)) ∧ FZ q w B wx)
  case first =>
    cases hz : zeroP q.sa q.sl with
    | true =>
      have E : Hid (fm4 q = fm3 q) := Lib.hid (if_pos hz)
      clear hz
      go_wp2_with fail
      go_meet
      exact ⟨by rw [E.out], HZ.out⟩
    | false =>
      have E3 : Hid (fm4 q = cat (fm3 q) (cat bSrc (pfxF q.sa q.sl))) := Lib.hid (if_neg (by rw [hz]; simp))
      have E : Hid (fm4 q = cat (cat (fm3 q) bSrc) (pfxF q.sa q.sl)) := Lib.hid (E3.out.trans (by simp [cat]))
      have q1 : Op.stringOp .add (str (fm3 q)) ⟨#[32, 115, 114, 99, 32]⟩ = pure (.string (str (cat (fm3 q) bSrc))) := run_cat (m := bSrc) (by have := fm4_len O.out; rw [E.out, cat_len, cat_len] at this; omega)
      have q2 : Op.stringOp .add (str (cat (fm3 q) bSrc)) (str (pfxF q.sa q.sl)) = pure (.string (str (cat (cat (fm3 q) bSrc) (pfxF q.sa q.sl)))) := run_cat (by have := fm4_len O.out; rw [E.out, cat_len] at this; omega)
      have PL : Hid (∀ w1, Calls Tryd.prog 58 #[.agg #[.int .u32 (q.sa : Int), .int .i64 q.sl]] w1 fun e w' => e = .returned (.string (str (pfxF q.sa q.sl))) ∧ Below w1.heap.size w1 w') := Lib.hid (fun w1 => written_any q.sa q.sl w1 HQ.out.2.2.1)
      clear hz
      go_wp2_with fail
      refine (PL.out _).mono ?_
      rintro e w2 ⟨rfl, hb⟩
      have H9 := Lib.hid (HZ.out.keep hb)
      clear hb
      go_wp2_with fail
      go_meet
      exact ⟨by rw [E.out], H9.out⟩
  case rest =>
  clear r g c10 c11 z0 z1
  obtain ⟨rfl, hF⟩ := hcut
  have HY := Lib.hid hF
  clear hF HZ
  have z0 : wc.cell? ⟨B, 0, none⟩ = some (.int .u32 0) := HY.out.2.1
  have z1 : wc.cell? ⟨B, 1, none⟩ = some (.int .i64 0) := HY.out.2.2
  have c12 : wc.cell? ⟨w.heap.size, 12, none⟩ = some (.int .u32 (q.da : Int)) := HY.out.1.1.cell 12
  have c13 : wc.cell? ⟨w.heap.size, 13, none⟩ = some (.int .i64 q.dl) := HY.out.1.1.cell 13
  have g := Tryd.pfxGuard
  have r : ∀ w, (binOp .neq 24 (.agg #[.int .u32 (q.da : Int), .int .i64 q.dl]) (.agg #[.int .u32 0, .int .i64 0])).run Tryd.prog w = .ok (.bool (!zeroP q.da q.dl)) w := fun w => (pfx_neq q.da 0 q.dl 0 w).trans (by rw [show decide (q.da = 0 ∧ q.dl = 0) = zeroP q.da q.dl from by rw [Bool.eq_iff_iff]; simp [zeroP]])
  go_upto_if 73 with fail
  go_cut [5] (fun s wx => s = .string (str (fm5 q)) ∧ FZ q w B wx)
  case first =>
    cases hz : zeroP q.da q.dl with
    | true =>
      have E : Hid (fm5 q = fm4 q) := Lib.hid (if_pos hz)
      clear hz
      go_wp2_with fail
      go_meet
      exact ⟨by rw [E.out], HY.out⟩
    | false =>
      have E3 : Hid (fm5 q = cat (fm4 q) (cat bDst (pfxF q.da q.dl))) := Lib.hid (if_neg (by rw [hz]; simp))
      have E : Hid (fm5 q = cat (cat (fm4 q) bDst) (pfxF q.da q.dl)) := Lib.hid (E3.out.trans (by simp [cat]))
      have q1 : Op.stringOp .add (str (fm4 q)) ⟨#[32, 100, 115, 116, 32]⟩ = pure (.string (str (cat (fm4 q) bDst))) := run_cat (m := bDst) (by have := fm5_len O.out; rw [E.out, cat_len, cat_len] at this; omega)
      have q2 : Op.stringOp .add (str (cat (fm4 q) bDst)) (str (pfxF q.da q.dl)) = pure (.string (str (cat (cat (fm4 q) bDst) (pfxF q.da q.dl)))) := run_cat (by have := fm5_len O.out; rw [E.out, cat_len] at this; omega)
      have PL : Hid (∀ w1, Calls Tryd.prog 58 #[.agg #[.int .u32 (q.da : Int), .int .i64 q.dl]] w1 fun e w' => e = .returned (.string (str (pfxF q.da q.dl))) ∧ Below w1.heap.size w1 w') := Lib.hid (fun w1 => written_any q.da q.dl w1 HQ.out.2.2.2)
      clear hz
      go_wp2_with fail
      refine (PL.out _).mono ?_
      rintro e w2 ⟨rfl, hb⟩
      have H9 := Lib.hid (HY.out.keep hb)
      clear hb
      go_wp2_with fail
      go_meet
      exact ⟨by rw [E.out], H9.out⟩
  case rest =>
  clear r g c12 c13 z0 z1
  obtain ⟨rfl, hF⟩ := hcut
  have H6 := Lib.hid hF.1
  clear hF HY
  have c14 : wc.cell? ⟨w.heap.size, 14, none⟩ = some (.int .i64 q.proto) := H6.out.1.cell 14
  go_upto_if 84 with fail
  go_cut [5] (fun s wx => s = .string (str (fm6 q)) ∧ FM q w wx)
  case first =>
    by_cases hz : q.proto = -1
    · have E : Hid (fm6 q = fm5 q) := Lib.hid (if_pos hz)
      have n1 : (q.proto != -1) = false := by simpa using hz
      clear hz
      go_wp2_with fail
      go_meet
      exact ⟨by rw [E.out], H6.out⟩
    · have E3 : Hid (fm6 q = cat (fm5 q) (cat bProto (dec q.proto.toNat))) := Lib.hid (if_neg hz)
      have E : Hid (fm6 q = cat (cat (fm5 q) bProto) (dec q.proto.toNat)) := Lib.hid (E3.out.trans (by simp [cat]))
      have n1 : (q.proto != -1) = true := by simpa using hz
      have q1 : Op.stringOp .add (str (fm5 q)) ⟨#[32, 112, 114, 111, 116, 111, 32]⟩ = pure (.string (str (cat (fm5 q) bProto))) := run_cat (m := bProto) (by have := fm6_len O.out; rw [E.out, cat_len, cat_len] at this; omega)
      have q2 : Op.stringOp .add (str (cat (fm5 q) bProto)) (str (dec q.proto.toNat)) = pure (.string (str (cat (cat (fm5 q) bProto) (dec q.proto.toNat)))) := run_cat (by have := fm6_len O.out; rw [E.out, cat_len] at this; omega)
      have PL : Hid (∀ w1, Calls Tryd.prog 59 #[.int .i64 q.proto] w1 fun e w' => e = .returned (.string (str (dec q.proto.toNat))) ∧ w1 = w') := Lib.hid (fun w1 => by
        have h1 := O.out.p1
        have h2 := O.out.p2
        have := decN q.proto.toNat (by omega) w1
        rwa [Int.toNat_of_nonneg (by omega)] at this)
      clear hz
      go_wp2_with fail
      refine (PL.out _).mono ?_
      rintro e w2 ⟨rfl, rfl⟩
      go_wp2_with fail
      go_meet
      exact ⟨by rw [E.out], H6.out⟩
  case rest =>
  clear c14
  obtain ⟨rfl, hF⟩ := hcut
  have H7 := Lib.hid hF
  clear hF H6
  have g := Tryd.rngGuard
  have r : ∀ w, (binOp .neq 26 (.agg #[.int .i64 q.slo, .int .i64 q.shi]) (.agg #[.int .i64 0, .int .i64 65535])).run Tryd.prog w = .ok (.bool (!allP q.slo q.shi)) w := fun w => rng_neq _ _ _ _ w
  have PA := Lib.hid (fun w1 => all_any w1)
  have f3 := all_field3
  unfold MV MC at PA
  have S0 : wc.cell? ⟨w.heap.size, 15, none⟩ = some (.int .i64 q.slo) ∧ wc.cell? ⟨w.heap.size, 16, none⟩ = some (.int .i64 q.shi) ∧ FM q w wc := ⟨H7.out.1.cell 15, H7.out.1.cell 16, H7.out⟩
  go_upto_region 18 with fail
  go_region_held3 (fun w' => w'.cell? ⟨w.heap.size, 15, none⟩ = some (.int .i64 q.slo) ∧ w'.cell? ⟨w.heap.size, 16, none⟩ = some (.int .i64 q.shi) ∧ FM q w w') (first | assumption | exact keepF2 S0 (belowDrew _) | (refine keepF2 ?_ (by assumption); assumption)) (first | (go_at_call 45; with_reducible refine (PA.out _).mono ?_; rintro e w' ⟨rfl, hb⟩))
  rename_i S1
  rename_i wq _
  replace S1 := Lib.hid S1
  clear S0 r g PA f3
  go_upto_if 97 with fail
  go_cut [5] (fun s wx => s = .string (str (fm6s q)) ∧ FM q w wx)
  case first =>
    cases d : allP q.slo q.shi with
    | true =>
      have hz : q.slo = 0 ∧ q.shi = 65535 := of_decide_eq_true d
      have E : Hid (fm6s q = fm6 q) := Lib.hid (by rw [fm6s]; unfold portT; rw [if_pos hz]; simp [cat])
      clear hz d
      go_wp2_with fail
      go_meet
      exact ⟨by rw [E.out], S1.out.2.2⟩
    | false =>
      have hz : ¬ (q.slo = 0 ∧ q.shi = 65535) := of_decide_eq_false d
      have E : Hid (fm6s q = cat (cat (cat (cat (fm6 q) bSport) (dec q.slo.toNat)) [32]) (dec q.shi.toNat)) := Lib.hid (by rw [fm6s]; unfold portT; rw [if_neg hz]; simp [cat])
      have LE := fm6s_len O.out
      rw [E.out, cat_len, cat_len, cat_len, cat_len] at LE
      have q1 : Op.stringOp .add (str (fm6 q)) ⟨#[32, 115, 112, 111, 114, 116, 32]⟩ = pure (.string (str (cat (fm6 q) bSport))) := run_cat (m := bSport) (by omega)
      have q2 : Op.stringOp .add (str (cat (fm6 q) bSport)) (str (dec q.slo.toNat)) = pure (.string (str (cat (cat (fm6 q) bSport) (dec q.slo.toNat)))) := run_cat (by rw [cat_len]; omega)
      have q3 : Op.stringOp .add (str (cat (cat (fm6 q) bSport) (dec q.slo.toNat))) ⟨#[32]⟩ = pure (.string (str (cat (cat (cat (fm6 q) bSport) (dec q.slo.toNat)) [32]))) := run_cat (m := [32]) (by rw [cat_len, cat_len]; omega)
      have q4 : Op.stringOp .add (str (cat (cat (cat (fm6 q) bSport) (dec q.slo.toNat)) [32])) (str (dec q.shi.toNat)) = pure (.string (str (cat (cat (cat (cat (fm6 q) bSport) (dec q.slo.toNat)) [32]) (dec q.shi.toNat)))) := run_cat (by rw [cat_len, cat_len, cat_len]; omega)
      have PL : Hid (∀ w1, Calls Tryd.prog 59 #[.int .i64 q.slo] w1 fun e w' => e = .returned (.string (str (dec q.slo.toNat))) ∧ Below w1.heap.size w1 w') := Lib.hid (fun w1 => by
        have h1 := O.out.s1
        have h2 := O.out.s2
        have h3 := O.out.s3
        have := decN q.slo.toNat (by omega) w1
        rw [Int.toNat_of_nonneg (by omega)] at this
        exact this.mono (fun e w' h => ⟨h.1, h.2 ▸ Below.refl _ _⟩))
      have PR : Hid (∀ w1, Calls Tryd.prog 59 #[.int .i64 q.shi] w1 fun e w' => e = .returned (.string (str (dec q.shi.toNat))) ∧ Below w1.heap.size w1 w') := Lib.hid (fun w1 => by
        have h1 := O.out.s1
        have h2 := O.out.s2
        have h3 := O.out.s3
        have := decN q.shi.toNat (by omega) w1
        rw [Int.toNat_of_nonneg (by omega)] at this
        exact this.mono (fun e w' h => ⟨h.1, h.2 ▸ Below.refl _ _⟩))
      have S0 := S1.out
      clear hz d LE
      go_wp2_with fail
      go_region_held3 (fun w' => w'.cell? ⟨w.heap.size, 15, none⟩ = some (.int .i64 q.slo) ∧ w'.cell? ⟨w.heap.size, 16, none⟩ = some (.int .i64 q.shi) ∧ FM q w w') (first | assumption | exact keepF2 S0 (belowDrew _) | (refine keepF2 ?_ (by assumption); assumption)) (first | (go_at_call 59; with_reducible refine (PL.out _).mono ?_; rintro e w' ⟨rfl, hb⟩) | (go_at_call 59; with_reducible refine (PR.out _).mono ?_; rintro e w' ⟨rfl, hb⟩))
      rename_i S2
      clear S0
      go_wp2_with fail
      go_meet
      exact ⟨by rw [E.out], S2.2.2⟩
  case rest =>
  obtain ⟨rfl, hF⟩ := hcut
  have H8 := Lib.hid hF
  clear hF H7
  have g := Tryd.rngGuard
  have r : ∀ w, (binOp .neq 26 (.agg #[.int .i64 q.dlo, .int .i64 q.dhi]) (.agg #[.int .i64 0, .int .i64 65535])).run Tryd.prog w = .ok (.bool (!allP q.dlo q.dhi)) w := fun w => rng_neq _ _ _ _ w
  have PA := Lib.hid (fun w1 => all_any w1)
  have f3 := all_field4
  unfold MV MC at PA
  have S0 : wc.cell? ⟨w.heap.size, 17, none⟩ = some (.int .i64 q.dlo) ∧ wc.cell? ⟨w.heap.size, 18, none⟩ = some (.int .i64 q.dhi) ∧ FM q w wc := ⟨H8.out.1.cell 17, H8.out.1.cell 18, H8.out⟩
  go_upto_region 20 with fail
  go_region_held3 (fun w' => w'.cell? ⟨w.heap.size, 17, none⟩ = some (.int .i64 q.dlo) ∧ w'.cell? ⟨w.heap.size, 18, none⟩ = some (.int .i64 q.dhi) ∧ FM q w w') (first | assumption | exact keepF2 S0 (belowDrew _) | (refine keepF2 ?_ (by assumption); assumption)) (first | (go_at_call 45; with_reducible refine (PA.out _).mono ?_; rintro e w' ⟨rfl, hb⟩))
  rename_i S1
  rename_i wq _
  replace S1 := Lib.hid S1
  clear S0 r g PA f3
  go_upto_if 118 with fail
  go_cut [5] (fun s wx => s = .string (str (fm7 q)) ∧ FM q w wx)
  case first =>
    cases d : allP q.dlo q.dhi with
    | true =>
      have hz : q.dlo = 0 ∧ q.dhi = 65535 := of_decide_eq_true d
      have E : Hid (fm7 q = fm6s q) := Lib.hid (by rw [fm7_two]; unfold portT; rw [if_pos hz]; simp [cat])
      clear hz d
      go_wp2_with fail
      go_meet
      exact ⟨by rw [E.out], S1.out.2.2⟩
    | false =>
      have hz : ¬ (q.dlo = 0 ∧ q.dhi = 65535) := of_decide_eq_false d
      have E : Hid (fm7 q = cat (cat (cat (cat (fm6s q) bDport) (dec q.dlo.toNat)) [32]) (dec q.dhi.toNat)) := Lib.hid (by rw [fm7_two]; unfold portT; rw [if_neg hz]; simp [cat])
      have LE := fm7_len O.out
      rw [E.out, cat_len, cat_len, cat_len, cat_len] at LE
      have q1 : Op.stringOp .add (str (fm6s q)) ⟨#[32, 100, 112, 111, 114, 116, 32]⟩ = pure (.string (str (cat (fm6s q) bDport))) := run_cat (m := bDport) (by omega)
      have q2 : Op.stringOp .add (str (cat (fm6s q) bDport)) (str (dec q.dlo.toNat)) = pure (.string (str (cat (cat (fm6s q) bDport) (dec q.dlo.toNat)))) := run_cat (by rw [cat_len]; omega)
      have q3 : Op.stringOp .add (str (cat (cat (fm6s q) bDport) (dec q.dlo.toNat))) ⟨#[32]⟩ = pure (.string (str (cat (cat (cat (fm6s q) bDport) (dec q.dlo.toNat)) [32]))) := run_cat (m := [32]) (by rw [cat_len, cat_len]; omega)
      have q4 : Op.stringOp .add (str (cat (cat (cat (fm6s q) bDport) (dec q.dlo.toNat)) [32])) (str (dec q.dhi.toNat)) = pure (.string (str (cat (cat (cat (cat (fm6s q) bDport) (dec q.dlo.toNat)) [32]) (dec q.dhi.toNat)))) := run_cat (by rw [cat_len, cat_len, cat_len]; omega)
      have PL : Hid (∀ w1, Calls Tryd.prog 59 #[.int .i64 q.dlo] w1 fun e w' => e = .returned (.string (str (dec q.dlo.toNat))) ∧ Below w1.heap.size w1 w') := Lib.hid (fun w1 => by
        have h1 := O.out.d1
        have h2 := O.out.d2
        have h3 := O.out.d3
        have := decN q.dlo.toNat (by omega) w1
        rw [Int.toNat_of_nonneg (by omega)] at this
        exact this.mono (fun e w' h => ⟨h.1, h.2 ▸ Below.refl _ _⟩))
      have PR : Hid (∀ w1, Calls Tryd.prog 59 #[.int .i64 q.dhi] w1 fun e w' => e = .returned (.string (str (dec q.dhi.toNat))) ∧ Below w1.heap.size w1 w') := Lib.hid (fun w1 => by
        have h1 := O.out.d1
        have h2 := O.out.d2
        have h3 := O.out.d3
        have := decN q.dhi.toNat (by omega) w1
        rw [Int.toNat_of_nonneg (by omega)] at this
        exact this.mono (fun e w' h => ⟨h.1, h.2 ▸ Below.refl _ _⟩))
      have S0 := S1.out
      clear hz d LE
      go_wp2_with fail
      go_region_held3 (fun w' => w'.cell? ⟨w.heap.size, 17, none⟩ = some (.int .i64 q.dlo) ∧ w'.cell? ⟨w.heap.size, 18, none⟩ = some (.int .i64 q.dhi) ∧ FM q w w') (first | assumption | exact keepF2 S0 (belowDrew _) | (refine keepF2 ?_ (by assumption); assumption)) (first | (go_at_call 59; with_reducible refine (PL.out _).mono ?_; rintro e w' ⟨rfl, hb⟩) | (go_at_call 59; with_reducible refine (PR.out _).mono ?_; rintro e w' ⟨rfl, hb⟩))
      rename_i S2
      clear S0
      go_wp2_with fail
      go_meet
      exact ⟨by rw [E.out], S2.2.2⟩
  case rest =>
  obtain ⟨rfl, hF⟩ := hcut
  have H9 := Lib.hid hF
  clear hF H8
  have c19 : wc.cell? ⟨w.heap.size, 19, none⟩ = some (.int .i64 q.fails) := H9.out.1.cell 19
  go_upto_if 136 with fail
  go_cut [5] (fun s wx => s = .string (str (fm8 q)) ∧ FM q w wx)
  case first =>
    by_cases hz : q.fails = 0
    · have E : Hid (fm8 q = fm7 q) := Lib.hid (if_pos hz)
      have n1 : (q.fails != 0) = false := by simpa using hz
      clear hz
      go_wp2_with fail
      go_meet
      exact ⟨by rw [E.out], H9.out⟩
    · have E3 : Hid (fm8 q = cat (fm7 q) (cat bFails (dec q.fails.toNat))) := Lib.hid (if_neg hz)
      have E : Hid (fm8 q = cat (cat (fm7 q) bFails) (dec q.fails.toNat)) := Lib.hid (E3.out.trans (by simp [cat]))
      have n1 : (q.fails != 0) = true := by simpa using hz
      have q1 : Op.stringOp .add (str (fm7 q)) ⟨#[32, 102, 97, 105, 108, 117, 114, 101, 115, 32]⟩ = pure (.string (str (cat (fm7 q) bFails))) := run_cat (m := bFails) (by have := fm8_len O.out; rw [E.out, cat_len, cat_len] at this; omega)
      have q2 : Op.stringOp .add (str (cat (fm7 q) bFails)) (str (dec q.fails.toNat)) = pure (.string (str (cat (cat (fm7 q) bFails) (dec q.fails.toNat)))) := run_cat (by have := fm8_len O.out; rw [E.out, cat_len] at this; omega)
      have PL : Hid (∀ w1, Calls Tryd.prog 59 #[.int .i64 q.fails] w1 fun e w' => e = .returned (.string (str (dec q.fails.toNat))) ∧ w1 = w') := Lib.hid (fun w1 => by
        have h1 := O.out.f1
        have h2 := O.out.f2
        have := decN q.fails.toNat (by omega) w1
        rwa [Int.toNat_of_nonneg (by omega)] at this)
      clear hz
      go_wp2_with fail
      refine (PL.out _).mono ?_
      rintro e w2 ⟨rfl, rfl⟩
      go_wp2_with fail
      go_meet
      exact ⟨by rw [E.out], H9.out⟩
  case rest =>
  clear c19
  obtain ⟨rfl, hF⟩ := hcut
  go_wp2_with fail
  go_ret2
  exact fpost V.out F0.out hF.2
end Go.Proofs.YtnhemjdmleilcaaDoor
