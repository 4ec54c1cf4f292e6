/- The law QueryPartners. Conditions: addresses are numbers below 2^32; Go's own tables and the words lie below the world's blocks (EnvB). -/
import Derived.Test.YtnhemjdmleilcaaDoorQryPc
namespace Go.Proofs.YtnhemjdmleilcaaDoor
open Go.RowKit

/-- The match and the packet, laid behind one another. -/
structure PB (x : Mt) (p : Pk) (w0 w : World) : Prop where
  m : w.heap[w0.heap.size]? = some (.cells x.C 28 (0, 0))
  p : HasK (w0.heap.size + 1) p w
  b : Below w0.heap.size w0 w
/-- And the query in block g. -/
structure PL (x : Mt) (p : Pk) (q : Qr) (g : Nat) (w0 w : World) : Prop where
  a : PB x p w0 w
  q : HasQ g q w
  hg : w0.heap.size + 1 < g
theorem PB.keep {x : Mt} {p : Pk} {w0 w w' : World} (h : PB x p w0 w) (hb : Below w.heap.size w w') : PB x p w0 w' :=
  ⟨(hb.block _ (blk_lt h.m)).trans h.m, h.p.below hb (blk_lt h.p), h.b.trans (hb.mono h.b.size)⟩
theorem PL.keep {x : Mt} {p : Pk} {q : Qr} {g : Nat} {w0 w w' : World} (h : PL x p q g w0 w) (hb : Below w.heap.size w w') : PL x p q g w0 w' := ⟨h.a.keep hb, h.q.below hb (blk_lt h.q), h.hg⟩
theorem PB.start (x : Mt) (p : Pk) (w : World) : PB x p w ((w.alloc (.cells x.C 28)).alloc (.cells (KC p) 51)) := by
  obtain ⟨h1, h2, h3⟩ := Two.start 28 51 x.C (KC p) w
  exact ⟨h1, h2, h3⟩
theorem PB.query {x : Mt} {p : Pk} {w0 w : World} (h : PB x p w0 w) : PL x p Qr.zero w.heap.size w0 (w.alloc (.cells (QC Qr.zero) 30)) :=
  ⟨h.keep ((Below.refl _ _).alloc (Nat.le_refl _) _), heap_alloc_new w _, blk_lt h.p⟩
theorem PL.stored {x : Mt} {p : Pk} {q : Qr} {g : Nat} {w0 w : World} (h : PL x p q g w0 w) (q' : Qr) : PL x p q' g w0 (w.setCells g 0 (QC q').toList) := by
  have hg := h.hg
  have hr := grown_setCells g (QC q').toList 0 w
  exact ⟨⟨(hr.block _ (blk_lt h.a.m) (fun e => by injection e; omega)).trans h.a.m, (hr.block _ (blk_lt h.a.p) (fun e => by injection e; omega)).trans h.a.p, h.a.b.trans (below_of_grown hr (by omega) h.a.b.size)⟩, h.q.stored q', hg⟩
theorem PL.put {x : Mt} {p : Pk} {q : Qr} {g : Nat} {w0 w : World} (h : PL x p q g w0 w) (d : Nat) : PL x (turnP p d) q g w0 (w.setCell ⟨w0.heap.size + 1, 1, none⟩ (.int .u32 (d : Int))) := by
  have hg := h.hg
  exact ⟨⟨(Below.heap_setCell _ _ _ _ (by show w0.heap.size ≠ w0.heap.size + 1; omega)).trans h.a.m, h.a.p.put d, h.a.b.trans ((Below.refl _ _).setCell (p := ⟨w0.heap.size + 1, 1, none⟩) (by show _ ≤ w0.heap.size + 1; omega) _)⟩, h.q.other _ (by omega), hg⟩
theorem PL.next {x : Mt} {p : Pk} {q : Qr} {g : Nat} {w0 w w' : World} {o : Obj} (h : PL x p q g w0 w) (hr : (w.alloc o).grownBy w' (some w.heap.size)) : PL x p q g w0 w' :=
  h.keep (((Below.refl w.heap.size w).alloc (Nat.le_refl _) _).trans (below_of_grown hr (Nat.le_refl _) (by simp)))
theorem HasK.next {b : Nat} {y : Pk} {w w' : World} {o : Obj} (h : HasK b y w) (hr : (w.alloc o).grownBy w' (some w.heap.size)) : HasK b y w' :=
  h.below (((Below.refl w.heap.size w).alloc (Nat.le_refl _) _).trans (below_of_grown hr (Nat.le_refl _) (by simp))) (blk_lt h)
theorem Kbox (w : World) : HasK w.heap.size Pk.zero (w.alloc (.cells (KC Pk.zero) 51)) := heap_alloc_new w _
/-- The match, in a region that draws its order. -/
theorem yieldsMt {ops : Array Oper} {S : World → Prop} {o : Oper} {a : Act} (hw : Region.wanted o (yielded ops a.tmps) = true) (x : Operand) (ho : o.op = .load 28 x) {g : Nat} {m : Mt}
    (hx : a.eval x = .pointer (some ⟨g, 0, none⟩)) (hS : ∀ w, S w → w.heap[g]? = some (.cells m.C 28 (0, 0))) : YieldsIf Tryd.prog ops S o (.agg m.C) a := by
  obtain ⟨d, hu, hd⟩ := row_of Tryd.rowM
  have := yieldsIf_load_mid (P := Tryd.prog) (ops := ops) (S := S) hw 28 x ho g 0 hx m.C.toList d (fun w h => range_blk (hS w h)) hu hd Tryd.sizeM
  simpa using this
theorem yieldsB {ops : Array Oper} {S : World → Prop} {o : Oper} {a : Act} {a0 b0 n0 : Nat} {m : Mt} (hw : Region.wanted o (yielded ops a.tmps) = true) (x y z : Operand)
    (ho : o.op = .build 30 #[(0, .const (.int .i64 6)), (1, .const (.string ⟨#[97]⟩)), (6, x), (7, y), (8, z)])
    (hx : a.eval x = .agg #[.int .u32 (a0 : Int), .int .i64 (n0 : Int)]) (hy : a.eval y = .agg #[.int .u32 (b0 : Int), .int .i64 (n0 : Int)]) (hz : a.eval z = .agg m.C) : YieldsIf Tryd.prog ops S o (QV (eqQ a0 b0 n0 m)) a := by
  refine Or.inl ⟨hw, fun w _ => ?_⟩
  have hb := build_eqQ a0 b0 n0 m w
  have e1 : a.eval (.const (.int .i64 6)) = .int .i64 6 := rfl
  have e2 : a.eval (.const (.string ⟨#[97]⟩)) = .string ⟨#[97]⟩ := rfl
  unfold execOp
  simp only [ho, List.map_toArray, List.map_cons, List.map_nil, hx, hy, hz, e1, e2, Sem.run_bind, hb, Result.andThen_ok, Sem.run_pure]
theorem wpList_buildEq {ops : Array Oper} {rest : List Oper} {o : Oper} {a : Act} {w : World} {Q : Exit → Act → World → Prop} {a0 b0 n0 : Nat} {m : Mt} (hgd : o.guard = none) (x y z : Operand)
    (ho : o.op = .build 30 #[(0, .const (.int .i64 6)), (1, .const (.string ⟨#[97]⟩)), (6, x), (7, y), (8, z)])
    (hx : a.eval x = .agg #[.int .u32 (a0 : Int), .int .i64 (n0 : Int)]) (hy : a.eval y = .agg #[.int .u32 (b0 : Int), .int .i64 (n0 : Int)]) (hz : a.eval z = .agg m.C)
    (h : wpList Tryd.prog ops Q rest (a.put o.dst (QV (eqQ a0 b0 n0 m))) w) : wpList Tryd.prog ops Q (o :: rest) a w := by
  refine Great.wpList_readTo hgd _ rfl _ ?_ h
  have hb := build_eqQ a0 b0 n0 m w
  have e1 : a.eval (.const (.int .i64 6)) = .int .i64 6 := rfl
  have e2 : a.eval (.const (.string ⟨#[97]⟩)) = .string ⟨#[97]⟩ := rfl
  unfold execOp
  simp only [ho, List.map_toArray, List.map_cons, List.map_nil, hx, hy, hz, e1, e2, Sem.run_bind, hb, Result.andThen_ok, Sem.run_pure]
/-- The store of a whole query, in a region that draws its order. -/
theorem wp_storeQ {o : Oper} {a : Act} {w : World} {K : Act → World → Prop} {Q : Exit → Act → World → Prop} (x y : Operand) (ho : o.op = .store 30 x y)
    {g : Nat} {q q' : Qr} (hx : a.eval x = .pointer (some ⟨g, 0, none⟩)) (hy : a.eval y = QV q') (hq : HasQ g q w) (h : K (a.put o.dst undef) (w.setCells g 0 (QC q').toList)) : o.wp Tryd.prog a w K Q :=
  wp_store_mid 30 x y ho g 0 (QC q') hx (hy.trans (QV_eq _)) hq.there Tryd.sizeQ (QC_one q') h
set_option maxRecDepth 100000 in
set_option maxHeartbeats 8000000 in
theorem queryPartners_walk (le ri : Nat) (n : Int) (x : Mt) (p : Pk) (near : Bool) (w : World) (he : EnvB w.heap.size w) (hle : le < 4294967296) (hri : ri < 4294967296) (_ : (Lit.int .i64 n).wf = true) (hx : x.fit) (hp : p.fit) :
    Calls Tryd.prog 9 #[.int .u32 (le : Int), .int .u32 (ri : Int), .int .i64 n, .agg x.C, .agg (KC p), .bool near] w fun e w' => e = .returned (.bool true) ∧ Below w.heap.size w w' := by
  have H0 := Lib.hid (PB.start x p w)
  have HA := Lib.hid (awake_any _ (he.up H0.out.b))
  have HX := Lib.hid hx
  have HP := Lib.hid hp
  have HL := Lib.hid hle
  have HR := Lib.hid hri
  clear he hx hp hle hri
  go_enter Tryd.func9, Tryd.ntmps9
  go_wp2_with fail
  refine HA.out.mono ?_
  rintro e w1 ⟨rfl, hb⟩
  have H1 := Lib.hid (H0.out.keep hb)
  clear hb H0 HA
  go_wp2_with (first | (refine wpList_loadK rfl _ rfl rfl H1.out.p ?_))
  refine (validPacket_any p _).mono ?_
  rintro e w2 ⟨rfl, hb⟩
  have H2 := Lib.hid (H1.out.keep hb)
  clear hb H1
  cases hpk : pktB p with
  | false =>
    go_wp2_with fail
    go_ret
    exact ⟨rfl, H2.out.b⟩
  | true =>
  have HPK := Lib.hid hpk
  clear hpk
  go_wp2_with (first | (refine wpList_unguard (by rfl) (wpList_loadRow rfl 28 _ rfl rfl (range_blk H2.out.m) Tryd.rowM Tryd.sizeM ?_)))
  refine (validMatch_any x.sa x.sl x.da x.dl x.proto x.slo x.shi x.dlo x.dhi _ HX.out.1 HX.out.2).mono ?_
  rintro e w3 ⟨rfl, hb⟩
  have H3 := Lib.hid (H2.out.keep hb)
  clear hb H2
  cases hok : matchB x.sa x.sl x.da x.dl x.proto x.slo x.shi x.dlo x.dhi with
  | false =>
    go_wp2_with fail
    go_ret
    exact ⟨rfl, H3.out.b⟩
  | true =>
  have HOK : Hid (x.ok = true) := Lib.hid hok
  clear hok
  go_wp2_with fail
  refine (pick_any n _).mono ?_
  rintro e w' ⟨m, hm, rfl, rfl⟩
  have PL1 := Lib.hid (fun w1 => network_any le (m : Int) w1 HL.out)
  have PL2 := Lib.hid (fun w1 => network_any ri (m : Int) w1 HR.out)
  have ecl : (clampN (m : Int) : Int) = (m : Int) := clampN_in (by omega) (by omega)
  unfold PV at PL1 PL2
  rw [ecl] at PL1 PL2
  clear ecl
  obtain ⟨na1, na2⟩ := net_valid le hm
  obtain ⟨nb1, nb2⟩ := net_valid ri hm
  have la : le / sz m * sz m < 4294967296 := Nat.lt_of_le_of_lt (Nat.div_mul_le_self _ _) HL.out
  have lb : ri / sz m * sz m < 4294967296 := Nat.lt_of_le_of_lt (Nat.div_mul_le_self _ _) HR.out
  generalize le / sz (m : Int) * sz (m : Int) = ad at *
  generalize ri / sz (m : Int) * sz (m : Int) = bd at *
  have NA := Lib.hid (And.intro na1 na2)
  have NB := Lib.hid (And.intro nb1 nb2)
  have LA := Lib.hid la
  have LB := Lib.hid lb
  clear na1 na2 nb1 nb2 la lb
  have V1 := Lib.hid (eqQ_valid NA.out.2 NB.out.2 HOK.out)
  have V2 := Lib.hid (eqQ_valid NB.out.2 NA.out.2 HOK.out)
  go_upto_region 6 with fail
  go_cut [13] (fun v wx => ∃ g, v = .pointer (some ⟨g, 0, none⟩) ∧ Hid (PL x p (eqQ ad bd m x) g w wx))
  case first =>
    refine wp_region_held_drew (S := fun w' => PB x p w w') (by kernel_rfl) (H3.out.keep (belowDrew _)) (fun hHeld => ?_)
    refine wpAnyH_take (i := 0) (oi := { dst := some 32, op := Op.move (Operand.tmp 0), type := 22, pos := "law.go:235", after := #[], guard := none }) (v := ?_) rfl (by kernel_rfl) (by kernel_rfl) (by kernel_rfl) (fun _ _ _ h => h) (Or.inl ⟨by rfl, ?_⟩) (by assumption) ?_
    rotate_left
    · (intro w hSw; (try dsimp only at hSw); go_simp; try with_reducible rfl)
    try simp only [Act.put, List.setIfInBounds_toArray, List.set_cons_zero, List.set_cons_succ]
    refine wpAnyH_take (i := 1) (oi := { dst := some 33, op := Op.move (Operand.tmp 2), type := 3, pos := "law.go:235", after := #[], guard := none }) (v := ?_) rfl (by kernel_rfl) (by kernel_rfl) (by kernel_rfl) (fun _ _ _ h => h) (Or.inl ⟨by rfl, ?_⟩) (by assumption) ?_
    rotate_left
    · (intro w hSw; (try dsimp only at hSw); go_simp; try with_reducible rfl)
    try simp only [Act.put, List.setIfInBounds_toArray, List.set_cons_zero, List.set_cons_succ]
    refine wpAnyH_take (i := 3) (oi := { dst := some 35, op := Op.move (Operand.tmp 1), type := 22, pos := "law.go:235", after := #[], guard := none }) (v := ?_) rfl (by kernel_rfl) (by kernel_rfl) (by kernel_rfl) (fun _ _ _ h => h) (Or.inl ⟨by rfl, ?_⟩) (by assumption) ?_
    rotate_left
    · (intro w hSw; (try dsimp only at hSw); go_simp; try with_reducible rfl)
    try simp only [Act.put, List.setIfInBounds_toArray, List.set_cons_zero, List.set_cons_succ]
    refine wpAnyH_take (i := 4) (oi := { dst := some 36, op := Op.move (Operand.tmp 2), type := 3, pos := "law.go:235", after := #[], guard := none }) (v := ?_) rfl (by kernel_rfl) (by kernel_rfl) (by kernel_rfl) (fun _ _ _ h => h) (Or.inl ⟨by rfl, ?_⟩) (by assumption) ?_
    rotate_left
    · (intro w hSw; (try dsimp only at hSw); go_simp; try with_reducible rfl)
    try simp only [Act.put, List.setIfInBounds_toArray, List.set_cons_zero, List.set_cons_succ]
    refine wpAnyH_take (i := 6) (oi := { dst := some 38, op := Op.load 28 (Operand.tmp 9), type := 28, pos := "law.go:235", after := #[], guard := none }) (v := .agg x.C) rfl (by kernel_rfl) (by kernel_rfl) (by kernel_rfl) (fun _ _ _ h => h) (yieldsMt (by rfl) _ rfl rfl (fun _ h => h.m)) (by assumption) ?_
    try simp only [Act.put, List.setIfInBounds_toArray, List.set_cons_zero, List.set_cons_succ]
    refine wpAnyH_ready (rs := [2, 8]) (by kernel_rfl) (by simp) ?_
    refine AllReadyH.cons (o := { dst := some 34, op := Op.call { callee := Callee.value (Operand.func 24), args := #[Operand.tmp 32, Operand.tmp 33], argTypes := #[22, 3] }, type := 24, pos := "law.go:235", after := #[{ on := 0, ground := Ground.data }, { on := 1, ground := Ground.data }], guard := none }) rfl (fun K hK => ?_) (AllReadyH.cons (o := { dst := some 13, op := Op.alloc 30, type := 0, pos := "law.go:235", after := #[], guard := none }) rfl (fun K hK => ?_) AllReadyH.nil)
    · go_simp
      refine (PL1.out _).mono ?_
      rintro e wa ⟨rfl, hb⟩
      refine hK.out _ _ (hHeld.keep hb) (fun _ => ?_)
      have hA := hHeld.keep hb
      clear hK K hb
      try simp only [Act.put, List.setIfInBounds_toArray, List.set_cons_zero, List.set_cons_succ]
      refine wpAnyH_ready (rs := [5, 8]) (by kernel_rfl) (by simp) ?_
      refine AllReadyH.cons (o := { dst := some 37, op := Op.call { callee := Callee.value (Operand.func 24), args := #[Operand.tmp 35, Operand.tmp 36], argTypes := #[22, 3] }, type := 24, pos := "law.go:235", after := #[{ on := 3, ground := Ground.data }, { on := 4, ground := Ground.data }, { on := 2, ground := Ground.chain }], guard := none }) rfl (fun K hK => ?_) (AllReadyH.cons (o := { dst := some 13, op := Op.alloc 30, type := 0, pos := "law.go:235", after := #[], guard := none }) rfl (fun K hK => ?_) AllReadyH.nil)
      · go_simp
        refine (PL2.out _).mono ?_
        rintro e wb ⟨rfl, hb⟩
        refine hK.out _ _ (hA.keep hb) (fun _ => ?_)
        have hB := hA.keep hb
        clear hK K hb
        try simp only [Act.put, List.setIfInBounds_toArray, List.set_cons_zero, List.set_cons_succ]
        refine wpAnyH_take (i := 7) (oi := { dst := some 39, op := Op.build 30 #[(0, Operand.const (Value.int IntKind.i64 6)), (1, Operand.const (Value.string { data := #[97] })), (6, Operand.tmp 34), (7, Operand.tmp 37), (8, Operand.tmp 38)], type := 30, pos := "law.go:235", after := #[{ on := 2, ground := Ground.data }, { on := 5, ground := Ground.data }, { on := 6, ground := Ground.data }], guard := none }) (v := QV (eqQ ad bd m x)) rfl (by kernel_rfl) (by kernel_rfl) (by kernel_rfl) (fun _ _ _ h => h) (yieldsB (by rfl) _ _ _ rfl rfl rfl rfl) (by assumption) ?_
        try simp only [Act.put, List.setIfInBounds_toArray, List.set_cons_zero, List.set_cons_succ]
        refine wpAnyH_ready (rs := [8]) (by kernel_rfl) (by simp) ?_
        refine AllReadyH.cons (o := { dst := some 13, op := Op.alloc 30, type := 0, pos := "law.go:235", after := #[], guard := none }) rfl (fun K hK => ?_) AllReadyH.nil
        go_simp
        refine hK.out _ _ (PB.query hB).a (fun _ => ?_)
        clear hK K
        try simp only [Act.put, List.setIfInBounds_toArray, List.set_cons_zero, List.set_cons_succ]
        have hC := PB.query hB
        refine wpAnyH_more (S' := fun w' => ∃ q', PL x p q' wb.heap.size w w') (fun _ h => h.elim fun _ h => h.a) _ _ _ _ ?_
        refine wpAnyH_ready (rs := [9]) (by kernel_rfl) (by simp) ?_
        refine AllReadyH.cons (o := { dst := none, op := Op.store 30 (Operand.tmp 13) (Operand.tmp 39), type := 0, pos := "law.go:235", after := #[{ on := 8, ground := Ground.data }, { on := 7, ground := Ground.data }, { on := 5, ground := Ground.chain }, { on := 0, ground := Ground.phase }, { on := 1, ground := Ground.phase }, { on := 2, ground := Ground.phase }, { on := 3, ground := Ground.phase }, { on := 4, ground := Ground.phase }, { on := 5, ground := Ground.phase }, { on := 6, ground := Ground.phase }, { on := 7, ground := Ground.phase }, { on := 8, ground := Ground.phase }], guard := none }) rfl (fun K hK => ?_) AllReadyH.nil
        rw [if_pos (by rfl)]
        refine wp_storeQ (q' := eqQ ad bd m x) _ _ rfl rfl rfl hC.q ?_
        refine hK.out _ _ ⟨_, hC.stored _⟩ (fun _ => ?_)
        clear hK K
        try simp only [Act.put]
        refine wpAnyH_done (by kernel_rfl) ?_ _
        go_wp2_with fail
        go_meet
        exact ⟨_, rfl, Lib.hid (hC.stored _)⟩
      · go_simp
        refine hK.out _ _ (PB.query hA).a (fun _ => ?_)
        clear hK K
        try simp only [Act.put, List.setIfInBounds_toArray, List.set_cons_zero, List.set_cons_succ]
        have hC := PB.query hA
        refine wpAnyH_more (S' := fun w' => ∃ q', PL x p q' wa.heap.size w w') (fun _ h => h.elim fun _ h => h.a) _ _ _ _ ?_
        refine wpAnyH_ready (rs := [5]) (by kernel_rfl) (by simp) ?_
        refine AllReadyH.cons (o := { dst := some 37, op := Op.call { callee := Callee.value (Operand.func 24), args := #[Operand.tmp 35, Operand.tmp 36], argTypes := #[22, 3] }, type := 24, pos := "law.go:235", after := #[{ on := 3, ground := Ground.data }, { on := 4, ground := Ground.data }, { on := 2, ground := Ground.chain }], guard := none }) rfl (fun K hK => ?_) AllReadyH.nil
        go_simp
        refine (PL2.out _).mono ?_
        rintro e wb ⟨rfl, hb⟩
        refine hK.out _ _ ⟨_, hC.keep hb⟩ (fun _ => ?_)
        have hD := hC.keep hb
        clear hK K hb
        try simp only [Act.put, List.setIfInBounds_toArray, List.set_cons_zero, List.set_cons_succ]
        have hS := (⟨_, hD⟩ : ∃ q', PL x p q' _ w _)
        refine wpAnyH_take (i := 7) (oi := { dst := some 39, op := Op.build 30 #[(0, Operand.const (Value.int IntKind.i64 6)), (1, Operand.const (Value.string { data := #[97] })), (6, Operand.tmp 34), (7, Operand.tmp 37), (8, Operand.tmp 38)], type := 30, pos := "law.go:235", after := #[{ on := 2, ground := Ground.data }, { on := 5, ground := Ground.data }, { on := 6, ground := Ground.data }], guard := none }) (v := QV (eqQ ad bd m x)) rfl (by kernel_rfl) (by kernel_rfl) (by kernel_rfl) (fun _ _ _ h => h) (yieldsB (by rfl) _ _ _ rfl rfl rfl rfl) (by assumption) ?_
        try simp only [Act.put, List.setIfInBounds_toArray, List.set_cons_zero, List.set_cons_succ]
        refine wpAnyH_ready (rs := [9]) (by kernel_rfl) (by simp) ?_
        refine AllReadyH.cons (o := { dst := none, op := Op.store 30 (Operand.tmp 13) (Operand.tmp 39), type := 0, pos := "law.go:235", after := #[{ on := 8, ground := Ground.data }, { on := 7, ground := Ground.data }, { on := 5, ground := Ground.chain }, { on := 0, ground := Ground.phase }, { on := 1, ground := Ground.phase }, { on := 2, ground := Ground.phase }, { on := 3, ground := Ground.phase }, { on := 4, ground := Ground.phase }, { on := 5, ground := Ground.phase }, { on := 6, ground := Ground.phase }, { on := 7, ground := Ground.phase }, { on := 8, ground := Ground.phase }], guard := none }) rfl (fun K hK => ?_) AllReadyH.nil
        rw [if_pos (by rfl)]
        refine wp_storeQ (q' := eqQ ad bd m x) _ _ rfl rfl rfl hD.q ?_
        refine hK.out _ _ ⟨_, hD.stored _⟩ (fun _ => ?_)
        clear hK K
        try simp only [Act.put]
        refine wpAnyH_done (by kernel_rfl) ?_ _
        go_wp2_with fail
        go_meet
        exact ⟨_, rfl, Lib.hid (hD.stored _)⟩
    · go_simp
      refine hK.out _ _ (PB.query hHeld).a (fun _ => ?_)
      clear hK K
      try simp only [Act.put, List.setIfInBounds_toArray, List.set_cons_zero, List.set_cons_succ]
      have hC := PB.query hHeld
      refine wpAnyH_more (S' := fun w' => ∃ q', PL x p q' w3.drew.heap.size w w') (fun _ h => h.elim fun _ h => h.a) _ _ _ _ ?_
      refine wpAnyH_ready (rs := [2]) (by kernel_rfl) (by simp) ?_
      refine AllReadyH.cons (o := { dst := some 34, op := Op.call { callee := Callee.value (Operand.func 24), args := #[Operand.tmp 32, Operand.tmp 33], argTypes := #[22, 3] }, type := 24, pos := "law.go:235", after := #[{ on := 0, ground := Ground.data }, { on := 1, ground := Ground.data }], guard := none }) rfl (fun K hK => ?_) AllReadyH.nil
      go_simp
      refine (PL1.out _).mono ?_
      rintro e wa ⟨rfl, hb⟩
      refine hK.out _ _ ⟨_, hC.keep hb⟩ (fun _ => ?_)
      have hD := hC.keep hb
      clear hK K hb
      try simp only [Act.put, List.setIfInBounds_toArray, List.set_cons_zero, List.set_cons_succ]
      refine wpAnyH_ready (rs := [5]) (by kernel_rfl) (by simp) ?_
      refine AllReadyH.cons (o := { dst := some 37, op := Op.call { callee := Callee.value (Operand.func 24), args := #[Operand.tmp 35, Operand.tmp 36], argTypes := #[22, 3] }, type := 24, pos := "law.go:235", after := #[{ on := 3, ground := Ground.data }, { on := 4, ground := Ground.data }, { on := 2, ground := Ground.chain }], guard := none }) rfl (fun K hK => ?_) AllReadyH.nil
      go_simp
      refine (PL2.out _).mono ?_
      rintro e wb ⟨rfl, hb⟩
      refine hK.out _ _ ⟨_, hD.keep hb⟩ (fun _ => ?_)
      have hE := hD.keep hb
      clear hK K hb
      try simp only [Act.put, List.setIfInBounds_toArray, List.set_cons_zero, List.set_cons_succ]
      have hS := (⟨_, hE⟩ : ∃ q', PL x p q' _ w _)
      refine wpAnyH_take (i := 7) (oi := { dst := some 39, op := Op.build 30 #[(0, Operand.const (Value.int IntKind.i64 6)), (1, Operand.const (Value.string { data := #[97] })), (6, Operand.tmp 34), (7, Operand.tmp 37), (8, Operand.tmp 38)], type := 30, pos := "law.go:235", after := #[{ on := 2, ground := Ground.data }, { on := 5, ground := Ground.data }, { on := 6, ground := Ground.data }], guard := none }) (v := QV (eqQ ad bd m x)) rfl (by kernel_rfl) (by kernel_rfl) (by kernel_rfl) (fun _ _ _ h => h) (yieldsB (by rfl) _ _ _ rfl rfl rfl rfl) (by assumption) ?_
      try simp only [Act.put, List.setIfInBounds_toArray, List.set_cons_zero, List.set_cons_succ]
      refine wpAnyH_ready (rs := [9]) (by kernel_rfl) (by simp) ?_
      refine AllReadyH.cons (o := { dst := none, op := Op.store 30 (Operand.tmp 13) (Operand.tmp 39), type := 0, pos := "law.go:235", after := #[{ on := 8, ground := Ground.data }, { on := 7, ground := Ground.data }, { on := 5, ground := Ground.chain }, { on := 0, ground := Ground.phase }, { on := 1, ground := Ground.phase }, { on := 2, ground := Ground.phase }, { on := 3, ground := Ground.phase }, { on := 4, ground := Ground.phase }, { on := 5, ground := Ground.phase }, { on := 6, ground := Ground.phase }, { on := 7, ground := Ground.phase }, { on := 8, ground := Ground.phase }], guard := none }) rfl (fun K hK => ?_) AllReadyH.nil
      rw [if_pos (by rfl)]
      refine wp_storeQ (q' := eqQ ad bd m x) _ _ rfl rfl rfl hE.q ?_
      refine hK.out _ _ ⟨_, hE.stored _⟩ (fun _ => ?_)
      clear hK K
      try simp only [Act.put]
      refine wpAnyH_done (by kernel_rfl) ?_ _
      go_wp2_with fail
      go_meet
      exact ⟨_, rfl, Lib.hid (hE.stored _)⟩
  case rest =>
  obtain ⟨g, rfl, H4⟩ := hcut
  clear H3 PL1 PL2
  go_upto_if 40 with fail
  go_cut [12] (fun v wx => v = .bool false ∧ ∃ p', p'.fit ∧ Hid (pktB p' = true) ∧ Hid (PL x p' (eqQ ad bd m x) g w wx))
  case first =>
    cases near with
    | false =>
      go_wp2_with fail
      go_meet
      exact ⟨rfl, p, HP.out, HPK, H4⟩
    | true =>
      obtain ⟨r, hr⟩ : ∃ r, p.dst % sz (m : Int) = r := ⟨_, rfl⟩
      obtain ⟨d1, hd1⟩ : ∃ d1, ad ||| r = d1 := ⟨_, rfl⟩
      have b1 : bits .andNot .u32 (p.dst : Int) (maskN (m : Int) : Int) = (r : Int) := by rw [← hr]; exact i_anot HP.out.2 m
      have hrl : r < 4294967296 := by rw [← hr]; exact Nat.lt_of_le_of_lt (Nat.mod_le _ _) HP.out.2
      have b2 : bits .or .u32 (ad : Int) (r : Int) = (d1 : Int) := by rw [← hd1]; exact i_or LA.out hrl
      have HF : Hid ((turnP p d1).fit) := Lib.hid ⟨HP.out.1, by
        have := Nat.or_lt_two_pow (x := ad) (y := r) (n := 32) (by simpa using LA.out) (by simpa using hrl)
        rw [hd1] at this
        exact this⟩
      have HK2 : Hid (pktB (turnP p d1) = true) := Lib.hid HPK.out
      have PMK := Lib.hid (fun w1 => mask_any (m : Int) w1)
      clear hr hd1 hrl
      go_wp2_with fail
      have kd : wc.drew.cell? ⟨w.heap.size + 1, 1, none⟩ = some (.int .u32 (p.dst : Int)) := H4.out.a.p.cell 1
      have S0 : wc.drew.cell? ⟨g, 6, none⟩ = some (.int .u32 (ad : Int)) := H4.out.q.cell 6
      have HD := Lib.hid (H4.out.keep (belowDrew _))
      have fz : wc.drew.frozen? ⟨w.heap.size + 1, 1, none⟩ = false := HD.out.a.p.frz 1
      clear H4
      generalize hwd : wc.drew = wd at kd S0 HD fz
      refine wp_region_held (S := fun w' => w'.cell? ⟨g, 6, none⟩ = some (.int .u32 (ad : Int))) (by kernel_rfl) ?_
      rw [show ({ wc with drawn := wc.drawn + 1 } : World) = wd from hwd]
      refine wpAnyH_take (i := 0) (oi := { dst := some 41, op := Op.fieldAddr 30 (Operand.tmp 13) 6, type := 0, pos := "law.go:237", after := #[], guard := none }) (v := ?_) rfl (by kernel_rfl) (by kernel_rfl) (by kernel_rfl) (fun _ _ _ h => h) (Or.inl ⟨by rfl, ?_⟩) (by assumption) ?_
      rotate_left
      · (intro w hSw; (try dsimp only at hSw); go_simp; try with_reducible rfl)
      try simp only [Act.put, List.setIfInBounds_toArray, List.set_cons_zero, List.set_cons_succ]
      refine wpAnyH_take (i := 1) (oi := { dst := some 42, op := Op.fieldAddr 24 (Operand.tmp 41) 0, type := 0, pos := "law.go:237", after := #[{ on := 0, ground := Ground.data }], guard := none }) (v := ?_) rfl (by kernel_rfl) (by kernel_rfl) (by kernel_rfl) (fun _ _ _ h => h) (Or.inl ⟨by rfl, ?_⟩) (by assumption) ?_
      rotate_left
      · (intro w hSw; (try dsimp only at hSw); go_simp; try with_reducible rfl)
      try simp only [Act.put, List.setIfInBounds_toArray, List.set_cons_zero, List.set_cons_succ]
      refine wpAnyH_take (i := 2) (oi := { dst := some 43, op := Op.load 22 (Operand.tmp 42), type := 22, pos := "law.go:237", after := #[{ on := 1, ground := Ground.data }], guard := none }) (v := ?_) rfl (by kernel_rfl) (by kernel_rfl) (by kernel_rfl) (fun _ _ _ h => h) (Or.inl ⟨by rfl, ?_⟩) (by assumption) ?_
      rotate_left
      · (intro w hSw; (try dsimp only at hSw); go_simp; try with_reducible rfl)
      try simp only [Act.put, List.setIfInBounds_toArray, List.set_cons_zero, List.set_cons_succ]
      refine wpAnyH_take (i := 3) (oi := { dst := some 44, op := Op.fieldAddr 51 (Operand.tmp 10) 1, type := 0, pos := "law.go:237", after := #[], guard := none }) (v := ?_) rfl (by kernel_rfl) (by kernel_rfl) (by kernel_rfl) (fun _ _ _ h => h) (Or.inl ⟨by rfl, ?_⟩) (by assumption) ?_
      rotate_left
      · (intro w hSw; (try dsimp only at hSw); go_simp; try with_reducible rfl)
      try simp only [Act.put, List.setIfInBounds_toArray, List.set_cons_zero, List.set_cons_succ]
      refine wpAnyH_take (i := 5) (oi := { dst := some 46, op := Op.move (Operand.tmp 2), type := 3, pos := "law.go:237", after := #[], guard := none }) (v := ?_) rfl (by kernel_rfl) (by kernel_rfl) (by kernel_rfl) (fun _ _ _ h => h) (Or.inl ⟨by rfl, ?_⟩) (by assumption) ?_
      rotate_left
      · (intro w hSw; (try dsimp only at hSw); go_simp; try with_reducible rfl)
      try simp only [Act.put, List.setIfInBounds_toArray, List.set_cons_zero, List.set_cons_succ]
      refine wpAnyH_ready (rs := [4, 6]) (by kernel_rfl) (by simp) ?_
      refine AllReadyH.cons (o := { dst := some 45, op := Op.load 22 (Operand.tmp 44), type := 22, pos := "law.go:237", after := #[{ on := 3, ground := Ground.data }], guard := none }) rfl (fun K hK => ?_) (AllReadyH.cons (o := { dst := some 47, op := Op.call { callee := Callee.value (Operand.func 25), args := #[Operand.tmp 46], argTypes := #[3] }, type := 22, pos := "law.go:237", after := #[{ on := 5, ground := Ground.data }], guard := none }) rfl (fun K hK => ?_) AllReadyH.nil)
      · go_simp
        refine hK.out _ _ S0 (fun _ => ?_)
        clear hK K
        try simp only [Act.put, List.setIfInBounds_toArray, List.set_cons_zero, List.set_cons_succ]
        refine wpAnyH_ready (rs := [6]) (by kernel_rfl) (by simp) ?_
        refine AllReadyH.cons (o := { dst := some 47, op := Op.call { callee := Callee.value (Operand.func 25), args := #[Operand.tmp 46], argTypes := #[3] }, type := 22, pos := "law.go:237", after := #[{ on := 5, ground := Ground.data }], guard := none }) rfl (fun K hK => ?_) AllReadyH.nil
        go_simp
        refine (PMK.out _).mono ?_
        rintro e w6 ⟨rfl, rfl⟩
        refine hK.out _ _ S0 (fun _ => ?_)
        clear hK K
        try simp only [Act.put, List.setIfInBounds_toArray, List.set_cons_zero, List.set_cons_succ]
        refine wpAnyH_take (i := 7) (oi := { dst := some 48, op := Op.binOp BinOp.andNot 22 (Operand.tmp 45) (Operand.tmp 47) 22, type := 22, pos := "law.go:237", after := #[{ on := 4, ground := Ground.data }, { on := 6, ground := Ground.data }], guard := none }) (v := ?_) rfl (by kernel_rfl) (by kernel_rfl) (by kernel_rfl) (fun _ _ _ h => h) (Or.inl ⟨by rfl, ?_⟩) (by assumption) ?_
        rotate_left
        · (intro w hSw; (try dsimp only at hSw); go_simp; try with_reducible rfl)
        try simp only [Act.put, List.setIfInBounds_toArray, List.set_cons_zero, List.set_cons_succ]
        refine wpAnyH_take (i := 8) (oi := { dst := some 49, op := Op.binOp BinOp.or 22 (Operand.tmp 43) (Operand.tmp 48) 22, type := 22, pos := "law.go:237", after := #[{ on := 2, ground := Ground.data }, { on := 7, ground := Ground.data }], guard := none }) (v := ?_) rfl (by kernel_rfl) (by kernel_rfl) (by kernel_rfl) (fun _ _ _ h => h) (Or.inl ⟨by rfl, ?_⟩) (by assumption) ?_
        rotate_left
        · (intro w hSw; (try dsimp only at hSw); go_simp; try with_reducible rfl)
        try simp only [Act.put, List.setIfInBounds_toArray, List.set_cons_zero, List.set_cons_succ]
        refine wpAnyH_take (i := 9) (oi := { dst := some 50, op := Op.fieldAddr 51 (Operand.tmp 10) 1, type := 0, pos := "law.go:237", after := #[{ on := 0, ground := Ground.phase }, { on := 1, ground := Ground.phase }, { on := 2, ground := Ground.phase }, { on := 3, ground := Ground.phase }, { on := 4, ground := Ground.phase }, { on := 5, ground := Ground.phase }, { on := 6, ground := Ground.phase }, { on := 7, ground := Ground.phase }, { on := 8, ground := Ground.phase }], guard := none }) (v := ?_) rfl (by kernel_rfl) (by kernel_rfl) (by kernel_rfl) (fun _ _ _ h => h) (Or.inl ⟨by rfl, ?_⟩) (by assumption) ?_
        rotate_left
        · (intro w hSw; (try dsimp only at hSw); go_simp; try with_reducible rfl)
        try simp only [Act.put, List.setIfInBounds_toArray, List.set_cons_zero, List.set_cons_succ]
        refine wpAnyH_ready (rs := [10]) (by kernel_rfl) (by simp) ?_
        refine AllReadyH.cons (o := { dst := none, op := Op.store 22 (Operand.tmp 50) (Operand.tmp 49), type := 0, pos := "law.go:237", after := #[{ on := 9, ground := Ground.data }, { on := 8, ground := Ground.data }, { on := 6, ground := Ground.chain }, { on := 0, ground := Ground.phase }, { on := 1, ground := Ground.phase }, { on := 2, ground := Ground.phase }, { on := 3, ground := Ground.phase }, { on := 4, ground := Ground.phase }, { on := 5, ground := Ground.phase }, { on := 6, ground := Ground.phase }, { on := 7, ground := Ground.phase }, { on := 8, ground := Ground.phase }], guard := none }) rfl (fun K hK => ?_) AllReadyH.nil
        go_simp
        refine hK.out _ _ ((PL.put HD.out _).q.cell 6) (fun _ => ?_)
        clear hK K
        refine wpAnyH_done (by kernel_rfl) ?_ _
        go_wp2_with fail
        go_meet
        exact ⟨rfl, turnP p d1, HF.out, HK2, Lib.hid (PL.put HD.out d1)⟩
      · go_simp
        refine (PMK.out _).mono ?_
        rintro e w6 ⟨rfl, rfl⟩
        refine hK.out _ _ S0 (fun _ => ?_)
        clear hK K
        try simp only [Act.put, List.setIfInBounds_toArray, List.set_cons_zero, List.set_cons_succ]
        refine wpAnyH_ready (rs := [4]) (by kernel_rfl) (by simp) ?_
        refine AllReadyH.cons (o := { dst := some 45, op := Op.load 22 (Operand.tmp 44), type := 22, pos := "law.go:237", after := #[{ on := 3, ground := Ground.data }], guard := none }) rfl (fun K hK => ?_) AllReadyH.nil
        go_simp
        refine hK.out _ _ S0 (fun _ => ?_)
        clear hK K
        try simp only [Act.put, List.setIfInBounds_toArray, List.set_cons_zero, List.set_cons_succ]
        refine wpAnyH_take (i := 7) (oi := { dst := some 48, op := Op.binOp BinOp.andNot 22 (Operand.tmp 45) (Operand.tmp 47) 22, type := 22, pos := "law.go:237", after := #[{ on := 4, ground := Ground.data }, { on := 6, ground := Ground.data }], guard := none }) (v := ?_) rfl (by kernel_rfl) (by kernel_rfl) (by kernel_rfl) (fun _ _ _ h => h) (Or.inl ⟨by rfl, ?_⟩) (by assumption) ?_
        rotate_left
        · (intro w hSw; (try dsimp only at hSw); go_simp; try with_reducible rfl)
        try simp only [Act.put, List.setIfInBounds_toArray, List.set_cons_zero, List.set_cons_succ]
        refine wpAnyH_take (i := 8) (oi := { dst := some 49, op := Op.binOp BinOp.or 22 (Operand.tmp 43) (Operand.tmp 48) 22, type := 22, pos := "law.go:237", after := #[{ on := 2, ground := Ground.data }, { on := 7, ground := Ground.data }], guard := none }) (v := ?_) rfl (by kernel_rfl) (by kernel_rfl) (by kernel_rfl) (fun _ _ _ h => h) (Or.inl ⟨by rfl, ?_⟩) (by assumption) ?_
        rotate_left
        · (intro w hSw; (try dsimp only at hSw); go_simp; try with_reducible rfl)
        try simp only [Act.put, List.setIfInBounds_toArray, List.set_cons_zero, List.set_cons_succ]
        refine wpAnyH_take (i := 9) (oi := { dst := some 50, op := Op.fieldAddr 51 (Operand.tmp 10) 1, type := 0, pos := "law.go:237", after := #[{ on := 0, ground := Ground.phase }, { on := 1, ground := Ground.phase }, { on := 2, ground := Ground.phase }, { on := 3, ground := Ground.phase }, { on := 4, ground := Ground.phase }, { on := 5, ground := Ground.phase }, { on := 6, ground := Ground.phase }, { on := 7, ground := Ground.phase }, { on := 8, ground := Ground.phase }], guard := none }) (v := ?_) rfl (by kernel_rfl) (by kernel_rfl) (by kernel_rfl) (fun _ _ _ h => h) (Or.inl ⟨by rfl, ?_⟩) (by assumption) ?_
        rotate_left
        · (intro w hSw; (try dsimp only at hSw); go_simp; try with_reducible rfl)
        try simp only [Act.put, List.setIfInBounds_toArray, List.set_cons_zero, List.set_cons_succ]
        refine wpAnyH_ready (rs := [10]) (by kernel_rfl) (by simp) ?_
        refine AllReadyH.cons (o := { dst := none, op := Op.store 22 (Operand.tmp 50) (Operand.tmp 49), type := 0, pos := "law.go:237", after := #[{ on := 9, ground := Ground.data }, { on := 8, ground := Ground.data }, { on := 6, ground := Ground.chain }, { on := 0, ground := Ground.phase }, { on := 1, ground := Ground.phase }, { on := 2, ground := Ground.phase }, { on := 3, ground := Ground.phase }, { on := 4, ground := Ground.phase }, { on := 5, ground := Ground.phase }, { on := 6, ground := Ground.phase }, { on := 7, ground := Ground.phase }, { on := 8, ground := Ground.phase }], guard := none }) rfl (fun K hK => ?_) AllReadyH.nil
        go_simp
        refine hK.out _ _ ((PL.put HD.out _).q.cell 6) (fun _ => ?_)
        clear hK K
        refine wpAnyH_done (by kernel_rfl) ?_ _
        go_wp2_with fail
        go_meet
        exact ⟨rfl, turnP p d1, HF.out, HK2, Lib.hid (PL.put HD.out d1)⟩
  case rest =>
  obtain ⟨rfl, p', hfp, HPK', H5⟩ := hcut
  clear H4 HPK HP
  have HP := Lib.hid hfp
  clear hfp
  have FQ := Lib.hid (eqQ_fit (n := m) LA.out LB.out HX.out)
  have FQ2 := Lib.hid (eqQ_fit (n := m) LB.out LA.out HX.out)
  go_wp2_with (first | (refine wpList_loadQ rfl _ rfl rfl H5.out.q ?_) | (refine wpList_loadK rfl _ rfl rfl H5.out.a.p ?_))
  refine (partner_any (eqQ ad bd m x) p' _ FQ.out HP.out).mono ?_
  rintro e w5 ⟨rfl, hb⟩
  have H6 := Lib.hid (H5.out.keep hb)
  have K6 := Lib.hid (Kbox w5)
  clear hb H5
  have ES := Lib.hid (part_same V1.out HPK'.out)
  cases ho : partO (eqQ ad bd m x) p' with
  | none =>
    dsimp only [Option.getD_none, Option.isSome_none]
    go_wp2_with (first | (refine wpList_storeK (q' := Pk.zero) rfl _ _ rfl rfl rfl K6.out ?_; intro w6 hz1 hz2) | (refine wpList_loadQ rfl _ rfl rfl (H6.out.next hz2).q ?_) | (refine wpList_loadK rfl _ rfl rfl (H6.out.next hz2).a.p ?_))
    have H7 := Lib.hid (H6.out.next hz2)
    have Z1 := Lib.hid hz1
    clear hz1 hz2
    refine (rpartner_any (eqQ ad bd m x) p' _ FQ.out HP.out).mono ?_
    rintro e w7 ⟨rfl, hb⟩
    rw [ES.out, ho]
    have H8 := Lib.hid (H7.out.keep hb)
    have Z2 := Lib.hid (Z1.out.below hb (blk_lt Z1.out))
    have K8 := Lib.hid (Kbox w7)
    clear hb H7 Z1
    dsimp only [Option.getD_none, Option.isSome_none]
    go_wp2_with (first | (refine wpList_storeK (q' := Pk.zero) rfl _ _ rfl rfl rfl K8.out ?_; intro w8 hy1 hy2) | (refine wpList_loadK rfl _ rfl rfl (Z2.out.next hy2) ?_) | (refine wpList_loadK rfl _ rfl rfl hy1 ?_) | (refine wpList_neqK (p := Pk.zero) rfl _ _ rfl rfl rfl ?_))
    go_ret
    exact ⟨rfl, (H8.out.next hy2).a.b⟩
  | some y =>
  have HO := Lib.hid ho
  have FY := Lib.hid (part_fit HP.out LB.out ho)
  dsimp only [Option.getD_some, Option.isSome_some]
  go_wp2_with (first | (refine wpList_storeK (q' := y) rfl _ _ rfl rfl rfl K6.out ?_; intro w6 hz1 hz2) | (refine wpList_loadQ rfl _ rfl rfl (H6.out.next hz2).q ?_) | (refine wpList_loadK rfl _ rfl rfl (H6.out.next hz2).a.p ?_))
  have H7 := Lib.hid (H6.out.next hz2)
  have Z1 := Lib.hid hz1
  clear hz1 hz2 H6 K6
  refine (rpartner_any (eqQ ad bd m x) p' _ FQ.out HP.out).mono ?_
  rintro e w7 ⟨rfl, hb⟩
  rw [ES.out, ho]
  have H8 := Lib.hid (H7.out.keep hb)
  have Z2 := Lib.hid (Z1.out.below hb (blk_lt Z1.out))
  have K8 := Lib.hid (Kbox w7)
  clear hb H7 Z1 ho
  dsimp only [Option.getD_some, Option.isSome_some]
  go_wp2_with (first | (refine wpList_storeK (q' := y) rfl _ _ rfl rfl rfl K8.out ?_; intro w8 hy1 hy2) | (refine wpList_unguard (by rfl) (wpList_loadRow rfl 28 _ rfl rfl (range_blk (H8.out.next hy2).a.m) Tryd.rowM Tryd.sizeM ?_)) | (refine wpList_unguard (by rfl) (wpList_loadK rfl _ rfl rfl (Z2.out.next hy2) ?_)) | (refine wpList_loadK rfl _ rfl rfl hy1 ?_) | (refine wpList_neqK (p := y) rfl _ _ rfl rfl rfl ?_))
  have H9 := Lib.hid (H8.out.next hy2)
  have Z3 := Lib.hid (Z2.out.next hy2)
  clear hy1 hy2 H8 Z2 K8
  refine (in_any x y _ HX.out FY.out).mono ?_
  rintro e w9 ⟨rfl, hb⟩
  have HA := Lib.hid (H9.out.keep hb)
  have Z4 := Lib.hid (Z3.out.below hb (blk_lt Z3.out))
  clear hb H9 Z3
  cases hin : (x.ok && pktB y && inB x y) with
  | false =>
    go_wp2_with fail
    go_ret
    exact ⟨rfl, HA.out.a.b⟩
  | true =>
  have hin2 : inB x y = true := by
    rw [Bool.and_eq_true] at hin
    exact hin.2
  obtain ⟨hb1, hb2, -⟩ := part_back NA.out.1 NB.out.1 V2.out HPK'.out HO.out hin2
  have HB1 := Lib.hid hb1
  have HB2 := Lib.hid hb2
  clear hin hin2 hb1 hb2
  have c6 : w9.cell? ⟨g, 6, none⟩ = some (.int .u32 (ad : Int)) := HA.out.q.cell 6
  have c7 : w9.cell? ⟨g, 7, none⟩ = some (.int .i64 (m : Int)) := HA.out.q.cell 7
  have c8 : w9.cell? ⟨g, 8, none⟩ = some (.int .u32 (bd : Int)) := HA.out.q.cell 8
  have c9 : w9.cell? ⟨g, 9, none⟩ = some (.int .i64 (m : Int)) := HA.out.q.cell 9
  go_wp2_with (first | (refine wpList_loadRow rfl 28 _ rfl rfl (range_blk HA.out.a.m) Tryd.rowM Tryd.sizeM ?_) | (refine wpList_loadK rfl _ rfl rfl Z4.out ?_) | (refine wpList_buildEq rfl _ _ _ rfl rfl rfl rfl ?_))
  clear c6 c7 c8 c9
  refine (partner_any (eqQ bd ad m x) y _ FQ2.out FY.out).mono ?_
  rintro e w10 ⟨rfl, hb⟩
  rw [HB1.out]
  have HC := Lib.hid (HA.out.keep hb)
  have Z5 := Lib.hid (Z4.out.below hb (blk_lt Z4.out))
  have K5 := Lib.hid (Kbox w10)
  clear hb HA Z4
  dsimp only [Option.getD_some, Option.isSome_some]
  have PC := Lib.hid (fun w1 => contains_any bd (m : Int) y.dst w1 FY.out.2)
  unfold PV at PC
  have C8 : Hid (∀ w', PL x p' (eqQ ad bd m x) g w w' → w'.cell? ⟨g, 8, none⟩ = some (.int .u32 (bd : Int))) := Lib.hid (fun w' h => h.q.cell 8)
  have C9 : Hid (∀ w', PL x p' (eqQ ad bd m x) g w w' → w'.cell? ⟨g, 9, none⟩ = some (.int .i64 (m : Int))) := Lib.hid (fun w' h => h.q.cell 9)
  go_wp2_with (first | (refine wpList_storeK (q' := p') rfl _ _ rfl rfl rfl K5.out ?_; intro w11 hy1 hy2; have c8 := C8.out _ (HC.out.next hy2); have c9 := C9.out _ (HC.out.next hy2); have k1 : w11.cell? ⟨w5.heap.size, 1, none⟩ = some (.int .u32 (y.dst : Int)) := (Z5.out.next hy2).cell 1) | (refine wpList_unguard (by rfl) (wpList_loadK rfl _ rfl rfl hy1 ?_)) | (refine wpList_unguard (by rfl) (wpList_loadK rfl _ rfl rfl (HC.out.next hy2).a.p ?_)) | (refine wpList_unguard (by rfl) (wpList_eqK (p := p') rfl _ _ rfl rfl rfl ?_)))
  refine (PC.out _).mono ?_
  rintro e w12 ⟨rfl, hb⟩
  rw [HB2.out]
  have HE := Lib.hid ((HC.out.next hy2).keep hb)
  clear hb hy1 hy2 c8 c9 k1
  go_wp2_with fail
  go_ret
  exact ⟨rfl, HE.out.a.b⟩
end Go.Proofs.YtnhemjdmleilcaaDoor
