/- The walks of Partner (both packages) and Pick. Condition: addresses are numbers below 2^32. -/
import Derived.Test.YtnhemjdmleilcaaDoorQryPa
namespace Go.Proofs.YtnhemjdmleilcaaDoor
open Go.RowKit

def mtOf (q : Qr) : Mt := ⟨q.sa, q.sl, q.da, q.dl, q.proto, q.slo, q.shi, q.dlo, q.dhi⟩
theorem mtOf_fit {q : Qr} (h : q.fit) : (mtOf q).fit := ⟨h.2.2.1, h.2.2.2⟩
/-- The partner under a query, and under the reference. -/
def turnP (p : Pk) (d : Nat) : Pk := { p with dst := d }
def partO (q : Qr) (p : Pk) : Option Pk := if q.kind = 6 ∧ validE q = 0 ∧ pktB p = true ∧ inB (mtOf q) p = true ∧ contP q.la q.ll p.dst = true then some (turnP p (q.ra ||| p.dst % sz q.ll)) else none
def rpartO (q : Qr) (p : Pk) : Option Pk := if q.kind = 6 ∧ inB (mtOf q) p = true ∧ contP q.la q.ll p.dst = true then some (turnP p (q.ra ||| p.dst % sz q.rl)) else none
def KPost (o : Option Pk) (w : World) (e : Ending) (w' : World) : Prop := e = .returned (.tuple #[.agg (KC (o.getD Pk.zero)), .bool o.isSome]) ∧ Below w.heap.size w w'
theorem kpost_none {o : Option Pk} {w w' : World} (h : o = none) (hb : Below w.heap.size w w') : KPost o w (.returned (.tuple #[.agg (KC Pk.zero), .bool false])) w' := ⟨by rw [h]; rfl, hb⟩
theorem kpost_some {o : Option Pk} {p : Pk} {w w' : World} (h : o = some p) (hb : Below w.heap.size w w') : KPost o w (.returned (.tuple #[.agg (KC p), .bool true])) w' := ⟨by rw [h]; rfl, hb⟩
/-- A packet in a block. -/
def HasK (g : Nat) (p : Pk) (w : World) : Prop := w.heap[g]? = some (.cells (KC p) 51 (0, 0))
theorem HasK.load {g : Nat} {p : Pk} {w : World} (h : HasK g p w) : (loadVar 51 ⟨g, 0, none⟩).run Tryd.prog w = .ok (.agg (KC p)) w := by
  obtain ⟨d, hu, hd⟩ := row_of Tryd.rowK
  have := run_loadVar_mid (P := Tryd.prog) w g 0 51 (KC p).toList d (range_blk h) hu hd Tryd.sizeK
  simpa using this
theorem HasK.below {g B : Nat} {p : Pk} {w w' : World} (h : HasK g p w) (hb : Below B w w') (hg : g < B) : HasK g p w' := (hb.block g hg).trans h
theorem HasK.cell {g : Nat} {p : Pk} {w : World} (h : HasK g p w) (j : Nat) : w.cell? ⟨g, j, none⟩ = (KC p)[j]? := Lib.cell_of_heap h j
theorem HasK.frz {g : Nat} {p : Pk} {w : World} (h : HasK g p w) (j : Nat) : w.frozen? ⟨g, j, none⟩ = false := Lib.frozen_of_heap h j
theorem HasK.put {g : Nat} {p : Pk} {w : World} (h : HasK g p w) (d : Nat) : HasK g (turnP p d) (w.setCell ⟨g, 1, none⟩ (.int .u32 (d : Int))) := by
  unfold HasK
  rw [Lib.heap_setCell_same (i := 1) h _]
  rfl
theorem HasK.other {g k j : Nat} {p : Pk} {w : World} (h : HasK g p w) (v : Value) (hk : g ≠ k) : HasK g p (w.setCell ⟨k, j, none⟩ v) := (Below.heap_setCell _ _ _ _ hk).trans h
theorem HasK.there {g : Nat} {p : Pk} {w : World} (h : HasK g p w) : w.there g 0 5 := by
  intro j hj
  rw [Nat.zero_add]
  refine ⟨?_, h.frz j⟩
  rw [h.cell j, Array.getElem?_eq_getElem (by exact hj)]
  rfl
theorem KC_one (p : Pk) : (KC p).all (·.oneCell') = true := by
  rw [Array.all_eq_true_iff_forall_mem]
  intro v hv
  simp only [KC, List.mem_toArray, List.mem_cons, List.not_mem_nil, or_false] at hv
  rcases hv with rfl | rfl | rfl | rfl | rfl <;> rfl
theorem HasK.stored {g : Nat} {q : Pk} {w : World} (h : HasK g q w) (q' : Pk) : HasK g q' (w.setCells g 0 (KC q').toList) := by
  unfold HasK at h ⊢
  rw [heap_setCells_same _ 0 _ _ h]
  have e : setAll (KC q) 0 (KC q').toList = KC q' := by simp only [KC, setAll, List.setIfInBounds_toArray, List.set, Nat.zero_add, Nat.reduceAdd]
  rw [e]
/-- The query, the packet and the result, laid behind one another. -/
structure Tri (q : Qr) (p r : Pk) (w0 w : World) : Prop where
  q : HasQ w0.heap.size q w
  p : HasK (w0.heap.size + 1) p w
  r : HasK (w0.heap.size + 2) r w
  b : Below w0.heap.size w0 w
theorem Tri.keep {q : Qr} {p r : Pk} {w0 w w' : World} (h : Tri q p r w0 w) (hb : Below w.heap.size w w') : Tri q p r w0 w' :=
  ⟨h.q.below hb (blk_lt h.q), h.p.below hb (blk_lt h.p), h.r.below hb (blk_lt h.r), h.b.trans (hb.mono h.b.size)⟩
theorem Tri.start (q : Qr) (p : Pk) (w : World) : Tri q p Pk.zero w (((w.alloc (.cells (QC q) 30)).alloc (.cells (KC p) 51)).alloc (.cells (KC Pk.zero) 51)) := by
  refine ⟨?_, ?_, ?_, (((Below.refl _ w).alloc (Nat.le_refl _) _).alloc (by simp) _).alloc (by simp; omega) _⟩
  · unfold HasQ
    rw [Below.heap_alloc _ _ _ (by simp; omega), Below.heap_alloc _ _ _ (by simp)]
    exact heap_alloc_new w _
  · unfold HasK
    rw [Below.heap_alloc _ _ _ (by simp)]
    have := heap_alloc_new (w.alloc (.cells (QC q) 30)) (.cells (KC p) 51)
    simpa using this
  · have := heap_alloc_new ((w.alloc (.cells (QC q) 30)).alloc (.cells (KC p) 51)) (.cells (KC Pk.zero) 51)
    rw [show ((w.alloc (.cells (QC q) 30)).alloc (.cells (KC p) 51)).heap.size = w.heap.size + 2 from by simp] at this
    exact this
theorem Tri.put {q : Qr} {p r : Pk} {w0 w : World} (h : Tri q p r w0 w) (d : Nat) : Tri q (turnP p d) r w0 (w.setCell ⟨w0.heap.size + 1, 1, none⟩ (.int .u32 (d : Int))) :=
  ⟨h.q.other _ (by omega), h.p.put d, h.r.other _ (by omega), h.b.trans ((Below.refl _ _).setCell (p := ⟨w0.heap.size + 1, 1, none⟩) (by show _ ≤ w0.heap.size + 1; omega) _)⟩
theorem Tri.res {q : Qr} {p r : Pk} {w0 w w' : World} (h : Tri q p r w0 w) (hg : w.grownBy w' (some (w0.heap.size + 2))) : Below w0.heap.size w0 w' :=
  h.b.trans (below_of_grown hg (by omega) h.b.size)
/-- A whole packet into a block: the operation. -/
theorem wpList_storeK {ops : Array Oper} {rest : List Oper} {o : Oper} {a : Act} {w : World} {Q : Exit → Act → World → Prop} (hgd : o.guard = none) (x y : Operand) (ho : o.op = .store 51 x y)
    {g : Nat} {q q' : Pk} (hx : a.eval x = .pointer (some ⟨g, 0, none⟩)) (hy : a.eval y = .agg (KC q')) (hq : HasK g q w)
    (h : ∀ w', HasK g q' w' → w.grownBy w' (some g) → wpList Tryd.prog ops Q rest (a.put o.dst undef) w') : wpList Tryd.prog ops Q (o :: rest) a w :=
  wpList_store_mid hgd 51 x y ho g 0 (KC q') hx hy hq.there Tryd.sizeK (KC_one q') (h _ (hq.stored q') (grown_setCells _ _ _ _))
theorem wpList_loadK {ops : Array Oper} {rest : List Oper} {o : Oper} {a : Act} {w : World} {Q : Exit → Act → World → Prop} (hgd : o.guard = none) (x : Operand) (ho : o.op = .load 51 x)
    {g : Nat} {p : Pk} (hx : a.eval x = .pointer (some ⟨g, 0, none⟩)) (hq : HasK g p w) (h : wpList Tryd.prog ops Q rest (a.put o.dst (.agg (KC p))) w) : wpList Tryd.prog ops Q (o :: rest) a w :=
  wpList_loadRow hgd 51 x ho hx (range_blk hq) Tryd.rowK Tryd.sizeK h
/-- The match of a query, out of the query's block. -/
theorem HasQ.mt {g : Nat} {q : Qr} {w : World} (h : HasQ g q w) : w.rangeAt g 10 (mtOf q).C.toList := by
  have := World.rangeAt_of_block h 10 9
  have e : (QC q).extract 10 (10 + 9) = (mtOf q).C := rfl
  rwa [e] at this
theorem wpList_loadMt {ops : Array Oper} {rest : List Oper} {o : Oper} {a : Act} {w : World} {Q : Exit → Act → World → Prop} (hgd : o.guard = none) (x : Operand) (ho : o.op = .load 28 x)
    {g : Nat} {q : Qr} (hx : a.eval x = .pointer (some ⟨g, 10, none⟩)) (hq : HasQ g q w) (h : wpList Tryd.prog ops Q rest (a.put o.dst (.agg (mtOf q).C)) w) : wpList Tryd.prog ops Q (o :: rest) a w :=
  wpList_loadRow hgd 28 x ho hx hq.mt Tryd.rowM Tryd.sizeM h
theorem i_or {a b : Nat} (ha : a < 4294967296) (hb : b < 4294967296) : bits .or .u32 (a : Int) (b : Int) = ((a ||| b : Nat) : Int) := u32_or_nat a b ha hb
set_option maxRecDepth 100000 in
set_option maxHeartbeats 4000000 in
theorem partner_any (q : Qr) (p : Pk) (w : World) (hq : q.fit) (hp : p.fit) : Calls Tryd.prog 26 #[QV q, .agg (KC p)] w (KPost (partO q p) w) := by
  have H0 := Lib.hid (Tri.start q p w)
  have HQ := Lib.hid hq
  have HP := Lib.hid hp
  have PC := Lib.hid (fun w1 => contains_any q.la q.ll p.dst w1 hp.2)
  unfold PV at PC
  have e0 : KC Pk.zero = #[.int .u32 0, .int .u32 0, .int .i64 0, .int .i64 0, .int .i64 0] := rfl
  rw [e0] at H0
  rw [QV_eq]
  clear hq hp
  have c0 : (((w.alloc (.cells (QC q) 30)).alloc (.cells (KC p) 51)).alloc (.cells #[.int .u32 0, .int .u32 0, .int .i64 0, .int .i64 0, .int .i64 0] 51)).cell? ⟨w.heap.size, 0, none⟩ = some (.int .i64 q.kind) := H0.out.q.cell 0
  by_cases hk : q.kind = 6
  case neg =>
    have d : (q.kind != 6) = true := by simpa using hk
    have E : Hid (partO q p = none) := Lib.hid (by unfold partO; rw [if_neg (fun h => hk h.1)])
    clear hk
    go_enter Tryd.func26, Tryd.ntmps26
    go_wp2_with (first | (refine wpList_storeK (q' := Pk.zero) rfl _ _ rfl rfl rfl H0.out.r ?_; intro wz hz1 hz2))
    refine bodyPost_ret (results_cell2 rfl rfl rfl hz1.load) rfl (kpost_none E.out ?_)
    exact H0.out.res hz2
  have d : (q.kind != 6) = false := by simpa using hk
  have HK := Lib.hid hk
  clear hk
  go_enter Tryd.func26, Tryd.ntmps26
  go_wp2_with (first | (refine wpList_unguard (by rfl) (wpList_loadQ rfl _ rfl rfl H0.out.q ?_)))
  refine (qvalid_any q _ HQ.out).mono ?_
  rintro e w1 ⟨rfl, hb⟩
  have H1 := Lib.hid (H0.out.keep hb)
  clear hb H0 c0
  by_cases hv : validE q = 0
  case neg =>
    have hn : (validE q != 0) = true := by simpa using hv
    have E : Hid (partO q p = none) := Lib.hid (by unfold partO; rw [if_neg (fun h => hv h.2.1)])
    clear hv
    go_wp2_with (first | (refine wpList_storeK (q' := Pk.zero) rfl _ _ rfl rfl rfl H1.out.r ?_; intro wz hz1 hz2))
    refine bodyPost_ret (results_cell2 rfl rfl rfl hz1.load) rfl (kpost_none E.out ?_)
    exact H1.out.res hz2
  have hn : (validE q != 0) = false := by simpa using hv
  have HV := Lib.hid hv
  have HM : Hid ((mtOf q).ok = true) := Lib.hid (by
    have h := okq hv
    have h1 := h.vs; have h2 := h.vd; have h3 := h.p1; have h4 := h.p2; have h5 := h.s1; have h6 := h.s2; have h7 := h.s3; have h8 := h.d1; have h9 := h.d2; have h10 := h.d3
    simp [Mt.ok, mtOf, matchB, portB, *])
  clear hv
  go_wp2_with (first | (refine wpList_unguard (by rfl) (wpList_loadK rfl _ rfl rfl H1.out.p ?_)))
  refine (validPacket_any p _).mono ?_
  rintro e w2 ⟨rfl, hb⟩
  have H2 := Lib.hid (H1.out.keep hb)
  clear hb H1 hn
  cases hpk : pktB p with
  | false =>
    have E : Hid (partO q p = none) := Lib.hid (by unfold partO; rw [if_neg (fun h => by rw [hpk] at h; exact absurd h.2.2.1 (by simp))])
    clear hpk
    go_wp2_with (first | (refine wpList_storeK (q' := Pk.zero) rfl _ _ rfl rfl rfl H2.out.r ?_; intro wz hz1 hz2))
    refine bodyPost_ret (results_cell2 rfl rfl rfl hz1.load) rfl (kpost_none E.out ?_)
    exact H2.out.res hz2
  | true =>
  have HPK := Lib.hid hpk
  clear hpk
  go_wp2_with (first | (refine wpList_unguard (by rfl) (wpList_loadMt rfl _ rfl rfl H2.out.q ?_)) | (refine wpList_unguard (by rfl) (wpList_loadK rfl _ rfl rfl H2.out.p ?_)))
  refine (in_any (mtOf q) p _ (mtOf_fit HQ.out) HP.out).mono ?_
  rintro e w3 ⟨rfl, hb⟩
  rw [HM.out, HPK.out, Bool.true_and, Bool.true_and]
  have H3 := Lib.hid (H2.out.keep hb)
  clear hb H2
  cases hin : inB (mtOf q) p with
  | false =>
    have E : Hid (partO q p = none) := Lib.hid (by unfold partO; rw [if_neg (fun h => by rw [hin] at h; exact absurd h.2.2.2.1 (by simp))])
    clear hin
    go_wp2_with (first | (refine wpList_storeK (q' := Pk.zero) rfl _ _ rfl rfl rfl H3.out.r ?_; intro wz hz1 hz2))
    refine bodyPost_ret (results_cell2 rfl rfl rfl hz1.load) rfl (kpost_none E.out ?_)
    exact H3.out.res hz2
  | true =>
  have HI := Lib.hid hin
  clear hin
  have c6 : w3.cell? ⟨w.heap.size, 6, none⟩ = some (.int .u32 (q.la : Int)) := H3.out.q.cell 6
  have c7 : w3.cell? ⟨w.heap.size, 7, none⟩ = some (.int .i64 q.ll) := H3.out.q.cell 7
  have k1 : w3.cell? ⟨w.heap.size + 1, 1, none⟩ = some (.int .u32 (p.dst : Int)) := H3.out.p.cell 1
  go_wp2_with fail
  refine (PC.out _).mono ?_
  rintro e w4 ⟨rfl, hb⟩
  have H4 := Lib.hid (H3.out.keep hb)
  clear hb H3 c6 c7 k1
  cases hc : contP q.la q.ll p.dst with
  | false =>
    have E : Hid (partO q p = none) := Lib.hid (by unfold partO; rw [if_neg (fun h => by rw [hc] at h; exact absurd h.2.2.2.2 (by simp))])
    clear hc
    go_wp2_with (first | (refine wpList_storeK (q' := Pk.zero) rfl _ _ rfl rfl rfl H4.out.r ?_; intro wz hz1 hz2))
    refine bodyPost_ret (results_cell2 rfl rfl rfl hz1.load) rfl (kpost_none E.out ?_)
    exact H4.out.res hz2
  | true =>
  obtain ⟨r, hr⟩ : ∃ r, p.dst % sz q.ll = r := ⟨_, rfl⟩
  obtain ⟨d1, hd1⟩ : ∃ d1, q.ra ||| r = d1 := ⟨_, rfl⟩
  have E : Hid (partO q p = some (turnP p d1)) := Lib.hid (by unfold partO; rw [if_pos ⟨HK.out, HV.out, HPK.out, HI.out, hc⟩, hr, hd1])
  have b1 : bits .andNot .u32 (p.dst : Int) (maskN q.ll : Int) = (r : Int) := by rw [← hr]; exact i_anot HP.out.2 q.ll
  have b2 : bits .or .u32 (q.ra : Int) (r : Int) = (d1 : Int) := by rw [← hd1]; exact i_or HQ.out.2.1 (by rw [← hr]; exact Nat.lt_of_le_of_lt (Nat.mod_le _ _) HP.out.2)
  clear hc hr hd1
  have PMK := Lib.hid (fun w1 => mask_any q.ll w1)
  go_wp2_with fail
  have kd : w4.drew.cell? ⟨w.heap.size + 1, 1, none⟩ = some (.int .u32 (p.dst : Int)) := H4.out.p.cell 1
  have S0 : w4.drew.cell? ⟨w.heap.size, 8, none⟩ = some (.int .u32 (q.ra : Int)) ∧ w4.drew.cell? ⟨w.heap.size, 7, none⟩ = some (.int .i64 q.ll) := ⟨H4.out.q.cell 8, H4.out.q.cell 7⟩
  have HD := Lib.hid (H4.out.keep (belowDrew _))
  have fz : w4.drew.frozen? ⟨w.heap.size + 1, 1, none⟩ = false := HD.out.p.frz 1
  clear H4
  generalize hwd : w4.drew = wd at kd S0 HD fz
  refine wp_region_held (S := fun w' => w'.cell? ⟨w.heap.size, 8, none⟩ = some (.int .u32 (q.ra : Int)) ∧ w'.cell? ⟨w.heap.size, 7, none⟩ = some (.int .i64 q.ll)) (by kernel_rfl) ?_
  rw [show ({ w4 with drawn := w4.drawn + 1 } : World) = wd from hwd]
  refine wpAnyH_take (i := 0) (oi := { dst := some 35, op := Op.fieldAddr 30 (Operand.tmp 2) 7, type := 0, pos := "query.go:102", after := #[], guard := none }) (v := ?_) rfl (by kernel_rfl) (by kernel_rfl) (by kernel_rfl) (fun _ _ _ h => h) (Or.inl ⟨by rfl, ?_⟩) (by assumption) ?_
  rotate_left
  · (intro w hSw; (try dsimp only at hSw); go_simp; try with_reducible rfl)
  try simp only [Act.put, List.setIfInBounds_toArray, List.set_cons_zero, List.set_cons_succ]
  refine wpAnyH_take (i := 1) (oi := { dst := some 36, op := Op.fieldAddr 24 (Operand.tmp 35) 0, type := 0, pos := "query.go:102", after := #[{ on := 0, ground := Ground.data }], guard := none }) (v := ?_) rfl (by kernel_rfl) (by kernel_rfl) (by kernel_rfl) (fun _ _ _ h => h) (Or.inl ⟨by rfl, ?_⟩) (by assumption) ?_
  rotate_left
  · (intro w hSw; (try dsimp only at hSw); go_simp; try with_reducible rfl)
  try simp only [Act.put, List.setIfInBounds_toArray, List.set_cons_zero, List.set_cons_succ]
  refine wpAnyH_take (i := 2) (oi := { dst := some 37, op := Op.load 22 (Operand.tmp 36), type := 22, pos := "query.go:102", after := #[{ on := 1, ground := Ground.data }], guard := none }) (v := ?_) rfl (by kernel_rfl) (by kernel_rfl) (by kernel_rfl) (fun _ _ _ h => h) (Or.inl ⟨by rfl, ?_⟩) (by assumption) ?_
  rotate_left
  · (intro w hSw; (try dsimp only at hSw); go_simp; try with_reducible rfl)
  try simp only [Act.put, List.setIfInBounds_toArray, List.set_cons_zero, List.set_cons_succ]
  refine wpAnyH_take (i := 3) (oi := { dst := some 38, op := Op.fieldAddr 51 (Operand.tmp 3) 1, type := 0, pos := "query.go:102", after := #[], guard := none }) (v := ?_) rfl (by kernel_rfl) (by kernel_rfl) (by kernel_rfl) (fun _ _ _ h => h) (Or.inl ⟨by rfl, ?_⟩) (by assumption) ?_
  rotate_left
  · (intro w hSw; (try dsimp only at hSw); go_simp; try with_reducible rfl)
  try simp only [Act.put, List.setIfInBounds_toArray, List.set_cons_zero, List.set_cons_succ]
  refine wpAnyH_take (i := 5) (oi := { dst := some 40, op := Op.fieldAddr 30 (Operand.tmp 2) 6, type := 0, pos := "query.go:102", after := #[], guard := none }) (v := ?_) rfl (by kernel_rfl) (by kernel_rfl) (by kernel_rfl) (fun _ _ _ h => h) (Or.inl ⟨by rfl, ?_⟩) (by assumption) ?_
  rotate_left
  · (intro w hSw; (try dsimp only at hSw); go_simp; try with_reducible rfl)
  try simp only [Act.put, List.setIfInBounds_toArray, List.set_cons_zero, List.set_cons_succ]
  refine wpAnyH_take (i := 6) (oi := { dst := some 41, op := Op.fieldAddr 24 (Operand.tmp 40) 1, type := 0, pos := "query.go:102", after := #[{ on := 5, ground := Ground.data }], guard := none }) (v := ?_) rfl (by kernel_rfl) (by kernel_rfl) (by kernel_rfl) (fun _ _ _ h => h) (Or.inl ⟨by rfl, ?_⟩) (by assumption) ?_
  rotate_left
  · (intro w hSw; (try dsimp only at hSw); go_simp; try with_reducible rfl)
  try simp only [Act.put, List.setIfInBounds_toArray, List.set_cons_zero, List.set_cons_succ]
  refine wpAnyH_take (i := 7) (oi := { dst := some 42, op := Op.load 3 (Operand.tmp 41), type := 3, pos := "query.go:102", after := #[{ on := 6, ground := Ground.data }], guard := none }) (v := ?_) rfl (by kernel_rfl) (by kernel_rfl) (by kernel_rfl) (fun _ _ _ h => h) (Or.inl ⟨by rfl, ?_⟩) (by assumption) ?_
  rotate_left
  · (intro w hSw; (try dsimp only at hSw); go_simp; try with_reducible rfl)
  try simp only [Act.put, List.setIfInBounds_toArray, List.set_cons_zero, List.set_cons_succ]
  refine wpAnyH_ready (rs := [4, 8]) (by kernel_rfl) (by simp) ?_
  refine AllReadyH.cons (o := { dst := some 39, op := Op.load 22 (Operand.tmp 38), type := 22, pos := "query.go:102", after := #[{ on := 3, ground := Ground.data }], guard := none }) rfl (fun K hK => ?_) (AllReadyH.cons (o := { dst := some 43, op := Op.call { callee := Callee.value (Operand.func 25), args := #[Operand.tmp 42], argTypes := #[3] }, type := 22, pos := "query.go:102", after := #[{ on := 7, ground := Ground.data }], guard := none }) rfl (fun K hK => ?_) AllReadyH.nil)
  · go_simp
    refine hK.out _ _ S0 (fun _ => ?_)
    clear hK K
    try simp only [Act.put, List.setIfInBounds_toArray, List.set_cons_zero, List.set_cons_succ]
    refine wpAnyH_ready (rs := [8]) (by kernel_rfl) (by simp) ?_
    refine AllReadyH.cons (o := { dst := some 43, op := Op.call { callee := Callee.value (Operand.func 25), args := #[Operand.tmp 42], argTypes := #[3] }, type := 22, pos := "query.go:102", after := #[{ on := 7, ground := Ground.data }], guard := none }) rfl (fun K hK => ?_) AllReadyH.nil
    go_simp
    refine (PMK.out _).mono ?_
    rintro e w6 ⟨rfl, rfl⟩
    refine hK.out _ _ S0 (fun _ => ?_)
    clear hK K
    try simp only [Act.put, List.setIfInBounds_toArray, List.set_cons_zero, List.set_cons_succ]
    refine wpAnyH_take (i := 9) (oi := { dst := some 44, op := Op.binOp BinOp.andNot 22 (Operand.tmp 39) (Operand.tmp 43) 22, type := 22, pos := "query.go:102", after := #[{ on := 4, ground := Ground.data }, { on := 8, ground := Ground.data }], guard := none }) (v := ?_) rfl (by kernel_rfl) (by kernel_rfl) (by kernel_rfl) (fun _ _ _ h => h) (Or.inl ⟨by rfl, ?_⟩) (by assumption) ?_
    rotate_left
    · (intro w hSw; (try dsimp only at hSw); go_simp; try with_reducible rfl)
    try simp only [Act.put, List.setIfInBounds_toArray, List.set_cons_zero, List.set_cons_succ]
    refine wpAnyH_take (i := 10) (oi := { dst := some 45, op := Op.binOp BinOp.or 22 (Operand.tmp 37) (Operand.tmp 44) 22, type := 22, pos := "query.go:102", after := #[{ on := 2, ground := Ground.data }, { on := 9, ground := Ground.data }], guard := none }) (v := ?_) rfl (by kernel_rfl) (by kernel_rfl) (by kernel_rfl) (fun _ _ _ h => h) (Or.inl ⟨by rfl, ?_⟩) (by assumption) ?_
    rotate_left
    · (intro w hSw; (try dsimp only at hSw); go_simp; try with_reducible rfl)
    try simp only [Act.put, List.setIfInBounds_toArray, List.set_cons_zero, List.set_cons_succ]
    refine wpAnyH_take (i := 11) (oi := { dst := some 46, op := Op.fieldAddr 51 (Operand.tmp 3) 1, type := 0, pos := "query.go:102", after := #[{ on := 0, ground := Ground.phase }, { on := 1, ground := Ground.phase }, { on := 2, ground := Ground.phase }, { on := 3, ground := Ground.phase }, { on := 4, ground := Ground.phase }, { on := 5, ground := Ground.phase }, { on := 6, ground := Ground.phase }, { on := 7, ground := Ground.phase }, { on := 8, ground := Ground.phase }, { on := 9, ground := Ground.phase }, { on := 10, ground := Ground.phase }], guard := none }) (v := ?_) rfl (by kernel_rfl) (by kernel_rfl) (by kernel_rfl) (fun _ _ _ h => h) (Or.inl ⟨by rfl, ?_⟩) (by assumption) ?_
    rotate_left
    · (intro w hSw; (try dsimp only at hSw); go_simp; try with_reducible rfl)
    try simp only [Act.put, List.setIfInBounds_toArray, List.set_cons_zero, List.set_cons_succ]
    refine wpAnyH_ready (rs := [12]) (by kernel_rfl) (by simp) ?_
    refine AllReadyH.cons (o := { dst := none, op := Op.store 22 (Operand.tmp 46) (Operand.tmp 45), type := 0, pos := "query.go:102", after := #[{ on := 11, ground := Ground.data }, { on := 10, ground := Ground.data }, { on := 8, ground := Ground.chain }, { on := 0, ground := Ground.phase }, { on := 1, ground := Ground.phase }, { on := 2, ground := Ground.phase }, { on := 3, ground := Ground.phase }, { on := 4, ground := Ground.phase }, { on := 5, ground := Ground.phase }, { on := 6, ground := Ground.phase }, { on := 7, ground := Ground.phase }, { on := 8, ground := Ground.phase }, { on := 9, ground := Ground.phase }, { on := 10, ground := Ground.phase }], guard := none }) rfl (fun K hK => ?_) AllReadyH.nil
    go_simp
    refine hK.out _ _ ⟨(Tri.put HD.out _).q.cell 8, (Tri.put HD.out _).q.cell 7⟩ (fun _ => ?_)
    clear hK K
    try simp only [Act.put, List.setIfInBounds_toArray, List.set_cons_zero, List.set_cons_succ]
    refine wpAnyH_done (by kernel_rfl) ?_ _
    have HR := Lib.hid (Tri.put HD.out d1)
    clear HD kd fz
    generalize wd.setCell ⟨w.heap.size + 1, 1, none⟩ (.int .u32 (d1 : Int)) = we at HR ⊢
    go_wp2_with (first | (refine wpList_loadK rfl _ rfl rfl HR.out.p ?_) | (refine wpList_storeK (q' := turnP p d1) rfl _ _ rfl rfl rfl HR.out.r ?_; intro wz hz1 hz2))
    refine bodyPost_ret (results_cell2 rfl rfl rfl hz1.load) rfl (kpost_some E.out ?_)
    exact HR.out.res hz2
  · go_simp
    refine (PMK.out _).mono ?_
    rintro e w6 ⟨rfl, rfl⟩
    refine hK.out _ _ S0 (fun _ => ?_)
    clear hK K
    try simp only [Act.put, List.setIfInBounds_toArray, List.set_cons_zero, List.set_cons_succ]
    refine wpAnyH_ready (rs := [4]) (by kernel_rfl) (by simp) ?_
    refine AllReadyH.cons (o := { dst := some 39, op := Op.load 22 (Operand.tmp 38), type := 22, pos := "query.go:102", after := #[{ on := 3, ground := Ground.data }], guard := none }) rfl (fun K hK => ?_) AllReadyH.nil
    go_simp
    refine hK.out _ _ S0 (fun _ => ?_)
    clear hK K
    try simp only [Act.put, List.setIfInBounds_toArray, List.set_cons_zero, List.set_cons_succ]
    refine wpAnyH_take (i := 9) (oi := { dst := some 44, op := Op.binOp BinOp.andNot 22 (Operand.tmp 39) (Operand.tmp 43) 22, type := 22, pos := "query.go:102", after := #[{ on := 4, ground := Ground.data }, { on := 8, ground := Ground.data }], guard := none }) (v := ?_) rfl (by kernel_rfl) (by kernel_rfl) (by kernel_rfl) (fun _ _ _ h => h) (Or.inl ⟨by rfl, ?_⟩) (by assumption) ?_
    rotate_left
    · (intro w hSw; (try dsimp only at hSw); go_simp; try with_reducible rfl)
    try simp only [Act.put, List.setIfInBounds_toArray, List.set_cons_zero, List.set_cons_succ]
    refine wpAnyH_take (i := 10) (oi := { dst := some 45, op := Op.binOp BinOp.or 22 (Operand.tmp 37) (Operand.tmp 44) 22, type := 22, pos := "query.go:102", after := #[{ on := 2, ground := Ground.data }, { on := 9, ground := Ground.data }], guard := none }) (v := ?_) rfl (by kernel_rfl) (by kernel_rfl) (by kernel_rfl) (fun _ _ _ h => h) (Or.inl ⟨by rfl, ?_⟩) (by assumption) ?_
    rotate_left
    · (intro w hSw; (try dsimp only at hSw); go_simp; try with_reducible rfl)
    try simp only [Act.put, List.setIfInBounds_toArray, List.set_cons_zero, List.set_cons_succ]
    refine wpAnyH_take (i := 11) (oi := { dst := some 46, op := Op.fieldAddr 51 (Operand.tmp 3) 1, type := 0, pos := "query.go:102", after := #[{ on := 0, ground := Ground.phase }, { on := 1, ground := Ground.phase }, { on := 2, ground := Ground.phase }, { on := 3, ground := Ground.phase }, { on := 4, ground := Ground.phase }, { on := 5, ground := Ground.phase }, { on := 6, ground := Ground.phase }, { on := 7, ground := Ground.phase }, { on := 8, ground := Ground.phase }, { on := 9, ground := Ground.phase }, { on := 10, ground := Ground.phase }], guard := none }) (v := ?_) rfl (by kernel_rfl) (by kernel_rfl) (by kernel_rfl) (fun _ _ _ h => h) (Or.inl ⟨by rfl, ?_⟩) (by assumption) ?_
    rotate_left
    · (intro w hSw; (try dsimp only at hSw); go_simp; try with_reducible rfl)
    try simp only [Act.put, List.setIfInBounds_toArray, List.set_cons_zero, List.set_cons_succ]
    refine wpAnyH_ready (rs := [12]) (by kernel_rfl) (by simp) ?_
    refine AllReadyH.cons (o := { dst := none, op := Op.store 22 (Operand.tmp 46) (Operand.tmp 45), type := 0, pos := "query.go:102", after := #[{ on := 11, ground := Ground.data }, { on := 10, ground := Ground.data }, { on := 8, ground := Ground.chain }, { on := 0, ground := Ground.phase }, { on := 1, ground := Ground.phase }, { on := 2, ground := Ground.phase }, { on := 3, ground := Ground.phase }, { on := 4, ground := Ground.phase }, { on := 5, ground := Ground.phase }, { on := 6, ground := Ground.phase }, { on := 7, ground := Ground.phase }, { on := 8, ground := Ground.phase }, { on := 9, ground := Ground.phase }, { on := 10, ground := Ground.phase }], guard := none }) rfl (fun K hK => ?_) AllReadyH.nil
    go_simp
    refine hK.out _ _ ⟨(Tri.put HD.out _).q.cell 8, (Tri.put HD.out _).q.cell 7⟩ (fun _ => ?_)
    clear hK K
    try simp only [Act.put, List.setIfInBounds_toArray, List.set_cons_zero, List.set_cons_succ]
    refine wpAnyH_done (by kernel_rfl) ?_ _
    have HR := Lib.hid (Tri.put HD.out d1)
    clear HD kd fz
    generalize wd.setCell ⟨w.heap.size + 1, 1, none⟩ (.int .u32 (d1 : Int)) = we at HR ⊢
    go_wp2_with (first | (refine wpList_loadK rfl _ rfl rfl HR.out.p ?_) | (refine wpList_storeK (q' := turnP p d1) rfl _ _ rfl rfl rfl HR.out.r ?_; intro wz hz1 hz2))
    refine bodyPost_ret (results_cell2 rfl rfl rfl hz1.load) rfl (kpost_some E.out ?_)
    exact HR.out.res hz2
set_option maxRecDepth 100000 in
set_option maxHeartbeats 4000000 in
theorem rpartner_any (q : Qr) (p : Pk) (w : World) (hq : q.fit) (hp : p.fit) : Calls Tryd.prog 27 #[QV q, .agg (KC p)] w (KPost (rpartO q p) w) := by
  have H0 := Lib.hid (Tri.start q p w)
  have HQ := Lib.hid hq
  have HP := Lib.hid hp
  have PC := Lib.hid (fun w1 => rcontains_any q.la q.ll p.dst w1 hp.2)
  unfold PV at PC
  have e0 : KC Pk.zero = #[.int .u32 0, .int .u32 0, .int .i64 0, .int .i64 0, .int .i64 0] := rfl
  rw [e0] at H0
  rw [QV_eq]
  clear hq hp
  have c0 : (((w.alloc (.cells (QC q) 30)).alloc (.cells (KC p) 51)).alloc (.cells #[.int .u32 0, .int .u32 0, .int .i64 0, .int .i64 0, .int .i64 0] 51)).cell? ⟨w.heap.size, 0, none⟩ = some (.int .i64 q.kind) := H0.out.q.cell 0
  by_cases hk : q.kind = 6
  case neg =>
    have d : (q.kind != 6) = true := by simpa using hk
    have E : Hid (rpartO q p = none) := Lib.hid (by unfold rpartO; rw [if_neg (fun h => hk h.1)])
    clear hk
    go_enter Tryd.func27, Tryd.ntmps27
    go_wp2_with (first | (refine wpList_storeK (q' := Pk.zero) rfl _ _ rfl rfl rfl H0.out.r ?_; intro wz hz1 hz2))
    refine bodyPost_ret (results_cell2 rfl rfl rfl hz1.load) rfl (kpost_none E.out ?_)
    exact H0.out.res hz2
  have d : (q.kind != 6) = false := by simpa using hk
  have HK := Lib.hid hk
  clear hk
  go_enter Tryd.func27, Tryd.ntmps27
  go_wp2_with (first | (refine wpList_unguard (by rfl) (wpList_loadMt rfl _ rfl rfl H0.out.q ?_)) | (refine wpList_unguard (by rfl) (wpList_loadK rfl _ rfl rfl H0.out.p ?_)))
  refine (rin_any (mtOf q) p _ HP.out).mono ?_
  rintro e w3 ⟨rfl, hb⟩
  have H3 := Lib.hid (H0.out.keep hb)
  clear hb H0 c0
  cases hin : inB (mtOf q) p with
  | false =>
    have E : Hid (rpartO q p = none) := Lib.hid (by unfold rpartO; rw [if_neg (fun h => by rw [hin] at h; exact absurd h.2.1 (by simp))])
    clear hin
    go_wp2_with (first | (refine wpList_storeK (q' := Pk.zero) rfl _ _ rfl rfl rfl H3.out.r ?_; intro wz hz1 hz2))
    refine bodyPost_ret (results_cell2 rfl rfl rfl hz1.load) rfl (kpost_none E.out ?_)
    exact H3.out.res hz2
  | true =>
  have HI := Lib.hid hin
  clear hin
  have c6 : w3.cell? ⟨w.heap.size, 6, none⟩ = some (.int .u32 (q.la : Int)) := H3.out.q.cell 6
  have c7 : w3.cell? ⟨w.heap.size, 7, none⟩ = some (.int .i64 q.ll) := H3.out.q.cell 7
  have k1 : w3.cell? ⟨w.heap.size + 1, 1, none⟩ = some (.int .u32 (p.dst : Int)) := H3.out.p.cell 1
  go_wp2_with fail
  refine (PC.out _).mono ?_
  rintro e w4 ⟨rfl, hb⟩
  have H4 := Lib.hid (H3.out.keep hb)
  clear hb H3 c6 c7 k1
  cases hc : contP q.la q.ll p.dst with
  | false =>
    have E : Hid (rpartO q p = none) := Lib.hid (by unfold rpartO; rw [if_neg (fun h => by rw [hc] at h; exact absurd h.2.2 (by simp))])
    clear hc
    go_wp2_with (first | (refine wpList_storeK (q' := Pk.zero) rfl _ _ rfl rfl rfl H4.out.r ?_; intro wz hz1 hz2))
    refine bodyPost_ret (results_cell2 rfl rfl rfl hz1.load) rfl (kpost_none E.out ?_)
    exact H4.out.res hz2
  | true =>
  obtain ⟨r, hr⟩ : ∃ r, p.dst % sz q.rl = r := ⟨_, rfl⟩
  obtain ⟨d1, hd1⟩ : ∃ d1, q.ra ||| r = d1 := ⟨_, rfl⟩
  have E : Hid (rpartO q p = some (turnP p d1)) := Lib.hid (by unfold rpartO; rw [if_pos ⟨HK.out, HI.out, hc⟩, hr, hd1])
  have b1 : bits .andNot .u32 (p.dst : Int) (maskN q.rl : Int) = (r : Int) := by rw [← hr]; exact i_anot HP.out.2 q.rl
  have b2 : bits .or .u32 (q.ra : Int) (r : Int) = (d1 : Int) := by rw [← hd1]; exact i_or HQ.out.2.1 (by rw [← hr]; exact Nat.lt_of_le_of_lt (Nat.mod_le _ _) HP.out.2)
  clear hc hr hd1
  have PMK := Lib.hid (fun w1 => rmask_any q.rl w1)
  go_wp2_with fail
  have kd : w4.drew.cell? ⟨w.heap.size + 1, 1, none⟩ = some (.int .u32 (p.dst : Int)) := H4.out.p.cell 1
  have S0 : w4.drew.cell? ⟨w.heap.size, 8, none⟩ = some (.int .u32 (q.ra : Int)) ∧ w4.drew.cell? ⟨w.heap.size, 9, none⟩ = some (.int .i64 q.rl) := ⟨H4.out.q.cell 8, H4.out.q.cell 9⟩
  have HD := Lib.hid (H4.out.keep (belowDrew _))
  have fz : w4.drew.frozen? ⟨w.heap.size + 1, 1, none⟩ = false := HD.out.p.frz 1
  clear H4
  generalize hwd : w4.drew = wd at kd S0 HD fz
  refine wp_region_held (S := fun w' => w'.cell? ⟨w.heap.size, 8, none⟩ = some (.int .u32 (q.ra : Int)) ∧ w'.cell? ⟨w.heap.size, 9, none⟩ = some (.int .i64 q.rl)) (by kernel_rfl) ?_
  rw [show ({ w4 with drawn := w4.drawn + 1 } : World) = wd from hwd]
  refine wpAnyH_take (i := 0) (oi := { dst := some 25, op := Op.fieldAddr 30 (Operand.tmp 2) 7, type := 0, pos := "ref.go:321", after := #[], guard := none }) (v := ?_) rfl (by kernel_rfl) (by kernel_rfl) (by kernel_rfl) (fun _ _ _ h => h) (Or.inl ⟨by rfl, ?_⟩) (by assumption) ?_
  rotate_left
  · (intro w hSw; (try dsimp only at hSw); go_simp; try with_reducible rfl)
  try simp only [Act.put, List.setIfInBounds_toArray, List.set_cons_zero, List.set_cons_succ]
  refine wpAnyH_take (i := 1) (oi := { dst := some 26, op := Op.fieldAddr 24 (Operand.tmp 25) 0, type := 0, pos := "ref.go:321", after := #[{ on := 0, ground := Ground.data }], guard := none }) (v := ?_) rfl (by kernel_rfl) (by kernel_rfl) (by kernel_rfl) (fun _ _ _ h => h) (Or.inl ⟨by rfl, ?_⟩) (by assumption) ?_
  rotate_left
  · (intro w hSw; (try dsimp only at hSw); go_simp; try with_reducible rfl)
  try simp only [Act.put, List.setIfInBounds_toArray, List.set_cons_zero, List.set_cons_succ]
  refine wpAnyH_take (i := 2) (oi := { dst := some 27, op := Op.load 22 (Operand.tmp 26), type := 22, pos := "ref.go:321", after := #[{ on := 1, ground := Ground.data }], guard := none }) (v := ?_) rfl (by kernel_rfl) (by kernel_rfl) (by kernel_rfl) (fun _ _ _ h => h) (Or.inl ⟨by rfl, ?_⟩) (by assumption) ?_
  rotate_left
  · (intro w hSw; (try dsimp only at hSw); go_simp; try with_reducible rfl)
  try simp only [Act.put, List.setIfInBounds_toArray, List.set_cons_zero, List.set_cons_succ]
  refine wpAnyH_take (i := 3) (oi := { dst := some 28, op := Op.fieldAddr 51 (Operand.tmp 3) 1, type := 0, pos := "ref.go:321", after := #[], guard := none }) (v := ?_) rfl (by kernel_rfl) (by kernel_rfl) (by kernel_rfl) (fun _ _ _ h => h) (Or.inl ⟨by rfl, ?_⟩) (by assumption) ?_
  rotate_left
  · (intro w hSw; (try dsimp only at hSw); go_simp; try with_reducible rfl)
  try simp only [Act.put, List.setIfInBounds_toArray, List.set_cons_zero, List.set_cons_succ]
  refine wpAnyH_take (i := 5) (oi := { dst := some 30, op := Op.fieldAddr 30 (Operand.tmp 2) 7, type := 0, pos := "ref.go:321", after := #[], guard := none }) (v := ?_) rfl (by kernel_rfl) (by kernel_rfl) (by kernel_rfl) (fun _ _ _ h => h) (Or.inl ⟨by rfl, ?_⟩) (by assumption) ?_
  rotate_left
  · (intro w hSw; (try dsimp only at hSw); go_simp; try with_reducible rfl)
  try simp only [Act.put, List.setIfInBounds_toArray, List.set_cons_zero, List.set_cons_succ]
  refine wpAnyH_take (i := 6) (oi := { dst := some 31, op := Op.fieldAddr 24 (Operand.tmp 30) 1, type := 0, pos := "ref.go:321", after := #[{ on := 5, ground := Ground.data }], guard := none }) (v := ?_) rfl (by kernel_rfl) (by kernel_rfl) (by kernel_rfl) (fun _ _ _ h => h) (Or.inl ⟨by rfl, ?_⟩) (by assumption) ?_
  rotate_left
  · (intro w hSw; (try dsimp only at hSw); go_simp; try with_reducible rfl)
  try simp only [Act.put, List.setIfInBounds_toArray, List.set_cons_zero, List.set_cons_succ]
  refine wpAnyH_take (i := 7) (oi := { dst := some 32, op := Op.load 3 (Operand.tmp 31), type := 3, pos := "ref.go:321", after := #[{ on := 6, ground := Ground.data }], guard := none }) (v := ?_) rfl (by kernel_rfl) (by kernel_rfl) (by kernel_rfl) (fun _ _ _ h => h) (Or.inl ⟨by rfl, ?_⟩) (by assumption) ?_
  rotate_left
  · (intro w hSw; (try dsimp only at hSw); go_simp; try with_reducible rfl)
  try simp only [Act.put, List.setIfInBounds_toArray, List.set_cons_zero, List.set_cons_succ]
  refine wpAnyH_ready (rs := [4, 8]) (by kernel_rfl) (by simp) ?_
  refine AllReadyH.cons (o := { dst := some 29, op := Op.load 22 (Operand.tmp 28), type := 22, pos := "ref.go:321", after := #[{ on := 3, ground := Ground.data }], guard := none }) rfl (fun K hK => ?_) (AllReadyH.cons (o := { dst := some 33, op := Op.call { callee := Callee.value (Operand.func 66), args := #[Operand.tmp 32], argTypes := #[3] }, type := 22, pos := "ref.go:321", after := #[{ on := 7, ground := Ground.data }], guard := none }) rfl (fun K hK => ?_) AllReadyH.nil)
  · go_simp
    refine hK.out _ _ S0 (fun _ => ?_)
    clear hK K
    try simp only [Act.put, List.setIfInBounds_toArray, List.set_cons_zero, List.set_cons_succ]
    refine wpAnyH_ready (rs := [8]) (by kernel_rfl) (by simp) ?_
    refine AllReadyH.cons (o := { dst := some 33, op := Op.call { callee := Callee.value (Operand.func 66), args := #[Operand.tmp 32], argTypes := #[3] }, type := 22, pos := "ref.go:321", after := #[{ on := 7, ground := Ground.data }], guard := none }) rfl (fun K hK => ?_) AllReadyH.nil
    go_simp
    refine (PMK.out _).mono ?_
    rintro e w6 ⟨rfl, rfl⟩
    refine hK.out _ _ S0 (fun _ => ?_)
    clear hK K
    try simp only [Act.put, List.setIfInBounds_toArray, List.set_cons_zero, List.set_cons_succ]
    refine wpAnyH_take (i := 9) (oi := { dst := some 34, op := Op.binOp BinOp.andNot 22 (Operand.tmp 29) (Operand.tmp 33) 22, type := 22, pos := "ref.go:321", after := #[{ on := 4, ground := Ground.data }, { on := 8, ground := Ground.data }], guard := none }) (v := ?_) rfl (by kernel_rfl) (by kernel_rfl) (by kernel_rfl) (fun _ _ _ h => h) (Or.inl ⟨by rfl, ?_⟩) (by assumption) ?_
    rotate_left
    · (intro w hSw; (try dsimp only at hSw); go_simp; try with_reducible rfl)
    try simp only [Act.put, List.setIfInBounds_toArray, List.set_cons_zero, List.set_cons_succ]
    refine wpAnyH_take (i := 10) (oi := { dst := some 35, op := Op.binOp BinOp.or 22 (Operand.tmp 27) (Operand.tmp 34) 22, type := 22, pos := "ref.go:321", after := #[{ on := 2, ground := Ground.data }, { on := 9, ground := Ground.data }], guard := none }) (v := ?_) rfl (by kernel_rfl) (by kernel_rfl) (by kernel_rfl) (fun _ _ _ h => h) (Or.inl ⟨by rfl, ?_⟩) (by assumption) ?_
    rotate_left
    · (intro w hSw; (try dsimp only at hSw); go_simp; try with_reducible rfl)
    try simp only [Act.put, List.setIfInBounds_toArray, List.set_cons_zero, List.set_cons_succ]
    refine wpAnyH_take (i := 11) (oi := { dst := some 36, op := Op.fieldAddr 51 (Operand.tmp 3) 1, type := 0, pos := "ref.go:321", after := #[{ on := 0, ground := Ground.phase }, { on := 1, ground := Ground.phase }, { on := 2, ground := Ground.phase }, { on := 3, ground := Ground.phase }, { on := 4, ground := Ground.phase }, { on := 5, ground := Ground.phase }, { on := 6, ground := Ground.phase }, { on := 7, ground := Ground.phase }, { on := 8, ground := Ground.phase }, { on := 9, ground := Ground.phase }, { on := 10, ground := Ground.phase }], guard := none }) (v := ?_) rfl (by kernel_rfl) (by kernel_rfl) (by kernel_rfl) (fun _ _ _ h => h) (Or.inl ⟨by rfl, ?_⟩) (by assumption) ?_
    rotate_left
    · (intro w hSw; (try dsimp only at hSw); go_simp; try with_reducible rfl)
    try simp only [Act.put, List.setIfInBounds_toArray, List.set_cons_zero, List.set_cons_succ]
    refine wpAnyH_ready (rs := [12]) (by kernel_rfl) (by simp) ?_
    refine AllReadyH.cons (o := { dst := none, op := Op.store 22 (Operand.tmp 36) (Operand.tmp 35), type := 0, pos := "ref.go:321", after := #[{ on := 11, ground := Ground.data }, { on := 10, ground := Ground.data }, { on := 8, ground := Ground.chain }, { on := 0, ground := Ground.phase }, { on := 1, ground := Ground.phase }, { on := 2, ground := Ground.phase }, { on := 3, ground := Ground.phase }, { on := 4, ground := Ground.phase }, { on := 5, ground := Ground.phase }, { on := 6, ground := Ground.phase }, { on := 7, ground := Ground.phase }, { on := 8, ground := Ground.phase }, { on := 9, ground := Ground.phase }, { on := 10, ground := Ground.phase }], guard := none }) rfl (fun K hK => ?_) AllReadyH.nil
    go_simp
    refine hK.out _ _ ⟨(Tri.put HD.out _).q.cell 8, (Tri.put HD.out _).q.cell 9⟩ (fun _ => ?_)
    clear hK K
    try simp only [Act.put, List.setIfInBounds_toArray, List.set_cons_zero, List.set_cons_succ]
    refine wpAnyH_done (by kernel_rfl) ?_ _
    have HR := Lib.hid (Tri.put HD.out d1)
    clear HD kd fz
    generalize wd.setCell ⟨w.heap.size + 1, 1, none⟩ (.int .u32 (d1 : Int)) = we at HR ⊢
    go_wp2_with (first | (refine wpList_loadK rfl _ rfl rfl HR.out.p ?_) | (refine wpList_storeK (q' := turnP p d1) rfl _ _ rfl rfl rfl HR.out.r ?_; intro wz hz1 hz2))
    refine bodyPost_ret (results_cell2 rfl rfl rfl hz1.load) rfl (kpost_some E.out ?_)
    exact HR.out.res hz2
  · go_simp
    refine (PMK.out _).mono ?_
    rintro e w6 ⟨rfl, rfl⟩
    refine hK.out _ _ S0 (fun _ => ?_)
    clear hK K
    try simp only [Act.put, List.setIfInBounds_toArray, List.set_cons_zero, List.set_cons_succ]
    refine wpAnyH_ready (rs := [4]) (by kernel_rfl) (by simp) ?_
    refine AllReadyH.cons (o := { dst := some 29, op := Op.load 22 (Operand.tmp 28), type := 22, pos := "ref.go:321", after := #[{ on := 3, ground := Ground.data }], guard := none }) rfl (fun K hK => ?_) AllReadyH.nil
    go_simp
    refine hK.out _ _ S0 (fun _ => ?_)
    clear hK K
    try simp only [Act.put, List.setIfInBounds_toArray, List.set_cons_zero, List.set_cons_succ]
    refine wpAnyH_take (i := 9) (oi := { dst := some 34, op := Op.binOp BinOp.andNot 22 (Operand.tmp 29) (Operand.tmp 33) 22, type := 22, pos := "ref.go:321", after := #[{ on := 4, ground := Ground.data }, { on := 8, ground := Ground.data }], guard := none }) (v := ?_) rfl (by kernel_rfl) (by kernel_rfl) (by kernel_rfl) (fun _ _ _ h => h) (Or.inl ⟨by rfl, ?_⟩) (by assumption) ?_
    rotate_left
    · (intro w hSw; (try dsimp only at hSw); go_simp; try with_reducible rfl)
    try simp only [Act.put, List.setIfInBounds_toArray, List.set_cons_zero, List.set_cons_succ]
    refine wpAnyH_take (i := 10) (oi := { dst := some 35, op := Op.binOp BinOp.or 22 (Operand.tmp 27) (Operand.tmp 34) 22, type := 22, pos := "ref.go:321", after := #[{ on := 2, ground := Ground.data }, { on := 9, ground := Ground.data }], guard := none }) (v := ?_) rfl (by kernel_rfl) (by kernel_rfl) (by kernel_rfl) (fun _ _ _ h => h) (Or.inl ⟨by rfl, ?_⟩) (by assumption) ?_
    rotate_left
    · (intro w hSw; (try dsimp only at hSw); go_simp; try with_reducible rfl)
    try simp only [Act.put, List.setIfInBounds_toArray, List.set_cons_zero, List.set_cons_succ]
    refine wpAnyH_take (i := 11) (oi := { dst := some 36, op := Op.fieldAddr 51 (Operand.tmp 3) 1, type := 0, pos := "ref.go:321", after := #[{ on := 0, ground := Ground.phase }, { on := 1, ground := Ground.phase }, { on := 2, ground := Ground.phase }, { on := 3, ground := Ground.phase }, { on := 4, ground := Ground.phase }, { on := 5, ground := Ground.phase }, { on := 6, ground := Ground.phase }, { on := 7, ground := Ground.phase }, { on := 8, ground := Ground.phase }, { on := 9, ground := Ground.phase }, { on := 10, ground := Ground.phase }], guard := none }) (v := ?_) rfl (by kernel_rfl) (by kernel_rfl) (by kernel_rfl) (fun _ _ _ h => h) (Or.inl ⟨by rfl, ?_⟩) (by assumption) ?_
    rotate_left
    · (intro w hSw; (try dsimp only at hSw); go_simp; try with_reducible rfl)
    try simp only [Act.put, List.setIfInBounds_toArray, List.set_cons_zero, List.set_cons_succ]
    refine wpAnyH_ready (rs := [12]) (by kernel_rfl) (by simp) ?_
    refine AllReadyH.cons (o := { dst := none, op := Op.store 22 (Operand.tmp 36) (Operand.tmp 35), type := 0, pos := "ref.go:321", after := #[{ on := 11, ground := Ground.data }, { on := 10, ground := Ground.data }, { on := 8, ground := Ground.chain }, { on := 0, ground := Ground.phase }, { on := 1, ground := Ground.phase }, { on := 2, ground := Ground.phase }, { on := 3, ground := Ground.phase }, { on := 4, ground := Ground.phase }, { on := 5, ground := Ground.phase }, { on := 6, ground := Ground.phase }, { on := 7, ground := Ground.phase }, { on := 8, ground := Ground.phase }, { on := 9, ground := Ground.phase }, { on := 10, ground := Ground.phase }], guard := none }) rfl (fun K hK => ?_) AllReadyH.nil
    go_simp
    refine hK.out _ _ ⟨(Tri.put HD.out _).q.cell 8, (Tri.put HD.out _).q.cell 9⟩ (fun _ => ?_)
    clear hK K
    try simp only [Act.put, List.setIfInBounds_toArray, List.set_cons_zero, List.set_cons_succ]
    refine wpAnyH_done (by kernel_rfl) ?_ _
    have HR := Lib.hid (Tri.put HD.out d1)
    clear HD kd fz
    generalize wd.setCell ⟨w.heap.size + 1, 1, none⟩ (.int .u32 (d1 : Int)) = we at HR ⊢
    go_wp2_with (first | (refine wpList_loadK rfl _ rfl rfl HR.out.p ?_) | (refine wpList_storeK (q' := turnP p d1) rfl _ _ rfl rfl rfl HR.out.r ?_; intro wz hz1 hz2))
    refine bodyPost_ret (results_cell2 rfl rfl rfl hz1.load) rfl (kpost_some E.out ?_)
    exact HR.out.res hz2
theorem pick_any (x : Int) (w : World) : Calls Tryd.prog 23 #[.int .i64 x, .int .i64 33] w fun e w' => ∃ n : Nat, n ≤ 32 ∧ e = .returned (.int .i64 (n : Int)) ∧ w = w' := by
  go_enter Tryd.func23, Tryd.ntmps23
  go_wp2_with fail
  go_ret
  have h0 : 0 ≤ IntKind.u64.wrap x := by simp [IntKind.wrap, IntKind.signed, IntKind.bits]; omega
  have h1 : (IntKind.u64.wrap x).tmod 33 = IntKind.u64.wrap x % 33 := Int.tmod_eq_emod_of_nonneg h0
  have h2 : wrap64 (IntKind.u64.wrap x % 33) = IntKind.u64.wrap x % 33 := by
    simp only [wrap64]
    omega
  refine ⟨(IntKind.u64.wrap x % 33).toNat, by omega, ?_, rfl⟩
  rw [Int.toNat_of_nonneg (by omega), ← h2, ← h1]
  rfl
end Go.Proofs.YtnhemjdmleilcaaDoor
