/- The walks of beta's cursor: next. Condition: the tokens lie below the cursor. -/
import Derived.Test.YtmddfkpkddemnaaGreatDoorUr
import Derived.Test.YtmddfkpkddemnaaGreatDoorUac
import Derived.Test.YtmddfkpkddemnaaGreatDoorUab
namespace Go.Proofs.YtmddfkpkddemnaaGreatDoor
open Go.RowKit Go.Shelf
theorem info_cells {P : Program} {T : TypeId} {k m b : Nat} (h : (P.info? T).map (fun i => (i.zero.map (fun z => z.cells.size), i.size, i.bytes)) = some (some k, m, b)) :
    ∃ i z, P.info? T = some i ∧ i.zero = some z ∧ z.cells.size = k ∧ i.size = m ∧ i.bytes = b := by
  obtain ⟨i, hi, h2⟩ := Option.map_eq_some_iff.1 h
  simp only [Prod.mk.injEq] at h2
  obtain ⟨z, hz, h3⟩ := Option.map_eq_some_iff.1 h2.1
  exact ⟨i, z, hi, hz, h3, h2.2.1, h2.2.2⟩
section
variable {P : Program} {ops : Array Oper} {rest : List Oper} {o : Oper} {a : Act} {w : World} {Q : Exit → Act → World → Prop}
/-- One struct appended to an owned slice. -/
theorem wpList_append1h (w : World) (hgd : o.guard = none) (s x : Operand) (t : TypeId)
    (ho : o.op = .call { callee := .builtin .append, args := #[s, x], argTypes := #[t, t] })
    (base : Nat) (e : TypeId) (i : TypeInfo) (z : Value) (size bts : Nat) (ht : P.underlying t = some (.slice e)) (hi : P.info? e = some i) (hz : i.zero = some z)
    (hsize : i.size = size) (hby : i.bytes = bts) (hzs : z.cells.size = size) (hsz : 0 < size)
    (v : Value) (n : Nat) (xs : List Value) (hs : a.eval s = v) (hown : w.ownsRow base e size v n xs)
    (cs : Array Value) (hx : a.eval x = .slice (some ⟨w.heap.size, 0, none⟩) 1 1) (hl : cs.size = size) (h1 : ∀ u ∈ cs.toList, u.oneCell' = true)
    (hbytes : (n + 1) * bts ≤ 140737488355328) (hpos : 1 ≤ bts) (hbase : base ≤ w.heap.size)
    (h : ∀ v' w', w'.ownsRow base e size v' (n + 1) (xs ++ cs.toList) → w.grownBy w' v.ownBlock → (v'.ownBlock = v.ownBlock ∨ v'.ownBlock = some (w.heap.size + 1)) → wpList P ops Q rest (a.put o.dst v') w') :
    wpList P ops Q (o :: rest) a (w.alloc (.cells cs e)) := by
  refine wpList_append_own_at _ hgd s x t ho base e i z size bts ht hi hz hsize hby hzs hsz v n xs hs (hown.alloc _) ⟨w.heap.size, 0, none⟩ 1 1 cs.toList hx (by simp [hl]) ?_ h1 ?_ hbytes (by simp; omega) ?_
  · intro j u hu
    rw [cell_new_at]
    simpa using hu
  · have := Nat.le_mul_of_pos_right (n + 1) hpos
    simp only [maxLen]; omega
  · intro v' w' hown' hg _ hat
    refine h v' w' hown' ?_ (by simpa using hat)
    exact ⟨hg.os, hg.tape, hg.output, Nat.le_trans (by simp) hg.size, fun k hk hne => (hg.block k (by simp; omega) hne).trans (Below.heap_alloc w _ k hk)⟩
end
theorem OwnE.snoc {α : Type} {w : World} {B n : Nat} {T : TypeId} {cells : α → Array Value} {v : Value} {l : List α} {x : α} (h : w.ownsRow B T n v (l.length + 1) ((l.flatMap fun x => (cells x).toList) ++ (cells x).toList)) : OwnE w B T n cells v (l ++ [x]) := by
  unfold OwnE
  simpa using h
/-- What is known of a struct of n cells: its type T, its slices' type S, its b bytes. -/
structure KS (α : Type) (T S n b : Nat) (C : α → Array Value) : Prop where
  row : (Tryz.prog.underlying T).map TypeDesc.isRow = some true
  size : (Tryz.prog.info? T).map (·.size) = some n
  info : (Tryz.prog.info? T).map (fun i => (i.zero.map (fun z => z.cells.size), i.size, i.bytes)) = some (some n, n, b)
  sl : Tryz.prog.underlying S = some (.slice T)
theorem kIf : KS If 67 22 12 112 If.C := ⟨by kernel_rfl, by kernel_rfl, by kernel_rfl, Tryz.underlying22⟩
theorem kPList : KS PList 103 23 2 40 PList.C := ⟨by kernel_rfl, by kernel_rfl, by kernel_rfl, Tryz.underlying23⟩
theorem kRMap : KS RMap 108 24 2 40 RMap.C := ⟨by kernel_rfl, by kernel_rfl, by kernel_rfl, Tryz.underlying24⟩
theorem kAList : KS AList 113 25 2 40 AList.C := ⟨by kernel_rfl, by kernel_rfl, by kernel_rfl, Tryz.underlying25⟩
theorem kCl : KS Cl 110 106 7 64 Cl.C := ⟨by kernel_rfl, by kernel_rfl, by kernel_rfl, Tryz.underlying106⟩
theorem kRu : KS Ru 119 111 10 64 Ru.C := ⟨by kernel_rfl, by kernel_rfl, by kernel_rfl, Tryz.underlying111⟩
theorem kSr : KS Sr 73 27 7 64 Sr.C := ⟨by kernel_rfl, by kernel_rfl, by kernel_rfl, Tryz.underlying27⟩
theorem kNb : KS Nb 124 34 4 48 Nb.C := ⟨by kernel_rfl, by kernel_rfl, by kernel_rfl, Tryz.underlying34⟩
theorem kRd : KS Rd 192 29 5 48 Rd.C := ⟨by kernel_rfl, by kernel_rfl, by kernel_rfl, Tryz.underlying29⟩
theorem kAR : KS AR 122 28 3 24 AR.C := ⟨by kernel_rfl, by kernel_rfl, by kernel_rfl, Tryz.underlying28⟩
theorem kPf : KS Pf 71 35 2 16 Pf.C := ⟨by kernel_rfl, by kernel_rfl, by kernel_rfl, Tryz.underlying35⟩
theorem kAg : KS Ag 126 36 3 24 Ag.C := ⟨by kernel_rfl, by kernel_rfl, by kernel_rfl, Tryz.underlying36⟩
theorem kCd : KS Cd 128 37 5 40 Cd.C := ⟨by kernel_rfl, by kernel_rfl, by kernel_rfl, Tryz.underlying37⟩
theorem kTr : KS Tr 69 26 9 64 Tr.C := ⟨by kernel_rfl, by kernel_rfl, by kernel_rfl, Tryz.underlying26⟩
theorem kPRule : KS PRule 105 101 5 40 PRule.C := ⟨by kernel_rfl, by kernel_rfl, by kernel_rfl, Tryz.underlying101⟩
/-- What add answers: the place of the new element; the slice at ⟨G, O⟩ has grown by x; no other old block has turned. -/
def AddP {α : Type} (T n : Nat) (C : α → Array Value) (G O B : Nat) (v : Value) (l : List α) (x : α) (w : World) (e : Ending) (w' : World) : Prop :=
  ∃ w1 gg cap, e = .returned (.pointer (some ⟨gg, l.length * n, none⟩)) ∧ OwnE w1 B T n C (.slice (some ⟨gg, 0, none⟩) (l.length + 1) cap) (l ++ [x]) ∧ w.grownBy w1 v.ownBlock ∧ (v.ownBlock = some gg ∨ w.heap.size ≤ gg) ∧ w' = w1.setCell ⟨G, O, none⟩ (.slice (some ⟨gg, 0, none⟩) (l.length + 1) cap)
abbrev AddSt (α : Type) (T n F : Nat) (C : α → Array Value) : Prop := ∀ (B G O : Nat) (v : Value) (l : List α) (x : α) (w : World), OwnE w B T n C v l → w.cell? ⟨G, O, none⟩ = some v → w.frozen? ⟨G, O, none⟩ = false → v.ownBlock ≠ some G → B ≤ w.heap.size → l.length ≤ 1000000000 → (C x).all (·.oneCell') = true →
  Calls Tryz.prog F #[.pointer (some ⟨G, O, none⟩), .agg (C x)] w (AddP T n C G O B v l x w)
theorem own_kept {w w1 : World} {G O : Nat} {v : Value} {row : Option Nat} (hg : w.grownBy w1 row) (hr : row ≠ some G) (hc : w.cell? ⟨G, O, none⟩ = some v) (hf : w.frozen? ⟨G, O, none⟩ = false) : w1.cell? ⟨G, O, none⟩ = some v ∧ w1.frozen? ⟨G, O, none⟩ = false := by
  have hl : G < w.heap.size := World.block_lt_of_cell? w _ hc
  have e := hg.block G hl (fun e => hr e.symm)
  unfold World.cell? World.frozen? at *
  simp only at *
  rw [e]
  exact ⟨hc, hf⟩
/-- One struct, just laid into a block, appended to an owned slice. -/
theorem OwnE.push {α : Type} {P : Program} {w : World} {B n bts : Nat} {T SL : TypeId} {cells : α → Array Value} {v : Value} {l : List α} (h : OwnE w B T n cells v l) (hB : B ≤ w.heap.size) (hu : P.underlying SL = some (.slice T))
    (hI : (P.info? T).map (fun i => (i.zero.map (fun z => z.cells.size), i.size, i.bytes)) = some (some n, n, bts)) (hn : 0 < n) (hl : ∀ x, (cells x).toList.length = n) (x : α) (h1 : (cells x).all (·.oneCell') = true)
    (hb : (l.length + 1) * bts ≤ 140737488355328) (hk : 0 < bts) (ty : TypeId) :
    ∃ A m c w', (Builtin.append_ #[SL, SL] ty #[v, .slice (some ⟨w.heap.size, 0, none⟩) 1 1]).run P (w.alloc (.cells (cells x) T)) = .ok (.slice A m c) w' ∧ OwnE w' B T n cells (.slice A m c) (l ++ [x]) ∧ w.grownBy w' v.ownBlock ∧
      ((Value.slice A m c).ownBlock = v.ownBlock ∨ (Value.slice A m c).ownBlock = none ∨ ∃ k, (Value.slice A m c).ownBlock = some k ∧ w.heap.size ≤ k) := by
  obtain ⟨i, z, hi, hz, hzs, his, hib⟩ := info_cells hI
  have ho : (w.alloc (.cells (cells x) T)).ownsRow B T n v l.length (l.flatMap fun x => (cells x).toList) := OwnE.below h ((Below.refl _ w).alloc (Nat.le_refl _) _)
  have hm := Nat.le_mul_of_pos_right (l.length + 1) hk
  obtain ⟨v', w', hr, h2, h3, -, h5⟩ := run_append_own_at (P := P) (w.alloc (.cells (cells x) T)) B SL ty T i z n bts hu hi hz his hib hzs hn v l.length _ ho ⟨w.heap.size, 0, none⟩ 1 1 (cells x).toList (by rw [hl, Nat.one_mul])
    (fun j u hj => by rw [cell_new_at]; simpa using hj) (fun u hu => Array.all_eq_true_iff_forall_mem.1 h1 u (by simpa using hu)) (by simp only [maxLen]; omega) hb (by simp; omega)
  have hf : ∃ A m c, v' = .slice A m c := by
    rcases h2.2 with ⟨e, -⟩ | ⟨g, cap, cur, e, -⟩
    · exact ⟨_, _, _, e⟩
    · exact ⟨_, _, _, e⟩
  obtain ⟨A, m, c, rfl⟩ := hf
  refine ⟨A, m, c, w', hr, OwnE.snoc h2, (World.grownBy_alloc w _ _).trans h3, ?_⟩
  rcases h5 with q | q
  · exact .inl q
  · exact .inr (.inr ⟨_, q, by simp⟩)
section
variable {P : Program} {ops : Array Oper} {o : Oper} {a : Act} {w : World}
theorem step_appendR {K : Act → World → Prop} {Q : Exit → Act → World → Prop} {E : Prop} (hg : o.guard = none) (d x : Operand) (t t' : TypeId) (hop : o.op = Op.call { callee := Callee.builtin Builtin.append, args := #[d, x], argTypes := #[t, t'] })
    (v u : Value) (hd : a.eval d = v) (hx : a.eval x = u) {v' : Value} {w' : World} (hr : (Builtin.append_ #[t, t'] o.type #[v, u]).run P w = .ok v' w') (hK : K (a.put o.dst v') w') :
    if Region.wanted o (yielded ops a.tmps) = true then Oper.wp P o a w K Q else E := by
  have hw : Region.wanted o (yielded ops a.tmps) = true := by simp [Region.wanted, hg]
  rw [if_pos hw]
  unfold Oper.wp execOp
  simp only [hop, resolve, invoke, builtin, Sem.run_bind, Sem.run_pure, Result.andThen_ok, List.map_toArray, List.map_cons, List.map_nil, hd, hx, hr]
  exact hK
end
set_option maxRecDepth 8000 in
set_option maxHeartbeats 4000000 in
theorem addIf : AddSt If 67 12 120 If.C := by
  intro B G O v l x w h hc hz hG hB hl hone
  obtain ⟨A0, c0, rfl⟩ : ∃ A0 c0, v = .slice A0 l.length c0 := by obtain ⟨A0, c0, e, -⟩ := h.slv; exact ⟨A0, c0, e⟩
  have hlt : G < w.heap.size := World.block_lt_of_cell? w _ hc
  have HX := Lib.hid (HasC.new w 67 (If.C x))
  have hsz : (w.alloc (.cells (If.C x) 67)).heap.size = w.heap.size + 1 := by simp
  have hb1 : Below w.heap.size w (w.alloc (.cells (If.C x) 67)) := (Below.refl _ w).alloc (Nat.le_refl _) _
  go_enter Tryz.func120, Tryz.ntmps120
  go_upto_region 1 with (fail)
  change Code.wp _ _ _ _ (w.alloc (.cells (If.C x) 67))
  generalize w.alloc (.cells (If.C x) 67) = wb at *
  have ho : OwnE wb.drew B 67 12 If.C (.slice A0 l.length c0) l := OwnE.below (OwnE.below h hb1) ⟨rfl, rfl, rfl, Nat.le_refl _, fun _ _ => rfl⟩
  obtain ⟨A5, m5, c5, w5, hr, ho5, hg5, hn5⟩ := ho.push (P := Tryz.prog) (by show B ≤ wb.heap.size; omega) kIf.sl kIf.info (by decide) (fun _ => rfl) x hone (by omega) (by decide) 22
  obtain ⟨gg, cap', cur, e5, hgB, -, -⟩ := ho5.part (by decide) (fun _ => rfl) (k := l.length) (by simp)
  rw [List.length_append, List.length_singleton] at e5
  injection e5 with e6 e7 e8
  subst e6 e7 e8
  have cr : wb.cell? ⟨G, O, none⟩ = some (.slice A0 l.length c0) := (hb1.cell (p := ⟨G, O, none⟩) hlt).trans hc
  have cra : ∀ o, (wb.alloc o).cell? ⟨G, O, none⟩ = some (.slice A0 l.length c0) := fun o => (World.cell?_alloc_lt wb o ⟨G, O, none⟩ (by show G < _; omega)).trans cr
  obtain ⟨c6, f6⟩ := own_kept (w := w) (w1 := w5) (v := .slice A0 l.length c0) (row := (Value.slice A0 l.length c0).ownBlock) ⟨hg5.os.trans hb1.os, hg5.tape.trans hb1.tape, hg5.output.trans hb1.output, Nat.le_trans hb1.size hg5.size, fun k hk hne => (hg5.block k (by show k < wb.heap.size; omega) hne).trans (hb1.block k hk)⟩ hG hc hz
  have HG5 : Hid (w.grownBy w5 (Value.slice A0 l.length c0).ownBlock) := Lib.hid ⟨hg5.os.trans hb1.os, hg5.tape.trans hb1.tape, hg5.output.trans hb1.output, Nat.le_trans hb1.size hg5.size, fun k hk hne => (hg5.block k (by show k < wb.heap.size; omega) hne).trans (hb1.block k hk)⟩
  have cx0 : wb.cell? ⟨w.heap.size, 0, none⟩ = .some (strV x.name) := HX.out.cell 0
  have cx1 : wb.cell? ⟨w.heap.size, 1, none⟩ = .some (.int .u32 (x.addr : Int)) := HX.out.cell 1
  have cx2 : wb.cell? ⟨w.heap.size, 2, none⟩ = .some (.int .i64 x.len) := HX.out.cell 2
  have cx3 : wb.cell? ⟨w.heap.size, 3, none⟩ = .some (.int .i64 x.vlan) := HX.out.cell 3
  have cx4 : wb.cell? ⟨w.heap.size, 4, none⟩ = .some (.bool x.down) := HX.out.cell 4
  have cx5 : wb.cell? ⟨w.heap.size, 5, none⟩ = .some (.bool x.ls) := HX.out.cell 5
  have cx6 : wb.cell? ⟨w.heap.size, 6, none⟩ = .some (.int .i64 x.area) := HX.out.cell 6
  have cx7 : wb.cell? ⟨w.heap.size, 7, none⟩ = .some (.int .i64 x.cost) := HX.out.cell 7
  have cx8 : wb.cell? ⟨w.heap.size, 8, none⟩ = .some (.bool x.dv) := HX.out.cell 8
  have cx9 : wb.cell? ⟨w.heap.size, 9, none⟩ = .some (strV x.inn) := HX.out.cell 9
  have cx10 : wb.cell? ⟨w.heap.size, 10, none⟩ = .some (strV x.out) := HX.out.cell 10
  have cx11 : wb.cell? ⟨w.heap.size, 11, none⟩ = .some (.int .i64 x.side) := HX.out.cell 11
  have HR := Lib.hid hr
  have HO5 := Lib.hid ho5
  have HN5 := Lib.hid hn5
  have HB1 := Lib.hid hb1
  clear hr ho5 hn5 hg5 HX ho h hc hz hb1
  go_wp2_with fail
  go_region_law (refine step_appendR rfl _ _ 22 22 rfl (.slice A0 l.length c0) (.slice (some ⟨wb.heap.size, 0, none⟩) 1 1) (by simp [Act.eval]) (by simp [Act.eval]) HR.out ?_)
  all_goals
    go_wp2_with fail
    have cn : (w5.setCell ⟨G, O, none⟩ (.slice (some ⟨gg, 0, none⟩) (l.length + 1) c5)).cell? ⟨G, O, none⟩ = some (.slice (some ⟨gg, 0, none⟩) (l.length + 1) c5) := World.cell?_setCell_same _ _ _ c6
    have d0 : IntKind.i64.wrap (l.length : Int) = (l.length : Int) := by rw [IntKind.wrap_i64]; omega
    have d1 : (0 : Int) ≤ (l.length : Int) := by omega
    have d2 : (l.length : Int) < (l.length : Int) + 1 := by omega
    go_region_held3 (fun w' => w'.cell? ⟨G, O, none⟩ = some (.slice (some ⟨gg, 0, none⟩) (l.length + 1) c5)) (assumption) (fail)
    go_wp2_with fail
    go_ret
    refine ⟨w5.drew, gg, c5, rfl, OwnE.below HO5.out ⟨rfl, rfl, rfl, Nat.le_refl _, fun _ _ => rfl⟩, ⟨HG5.out.os, HG5.out.tape, HG5.out.output, HG5.out.size, HG5.out.block⟩, ?_, rfl⟩
    rcases HN5.out with q | q | ⟨k, q, hk⟩
    · exact .inl q.symm
    · cases q
    · injection q with q
      subst q
      have hk' : wb.heap.size ≤ gg := hk
      exact .inr (by omega)
set_option maxRecDepth 8000 in
set_option maxHeartbeats 4000000 in
theorem addPList : AddSt PList 103 2 76 PList.C := by
  intro B G O v l x w h hc hz hG hB hl hone
  obtain ⟨A0, c0, rfl⟩ : ∃ A0 c0, v = .slice A0 l.length c0 := by obtain ⟨A0, c0, e, -⟩ := h.slv; exact ⟨A0, c0, e⟩
  have hlt : G < w.heap.size := World.block_lt_of_cell? w _ hc
  have HX := Lib.hid (HasC.new w 103 (PList.C x))
  have hsz : (w.alloc (.cells (PList.C x) 103)).heap.size = w.heap.size + 1 := by simp
  have hb1 : Below w.heap.size w (w.alloc (.cells (PList.C x) 103)) := (Below.refl _ w).alloc (Nat.le_refl _) _
  go_enter Tryz.func76, Tryz.ntmps76
  go_upto_region 1 with (fail)
  change Code.wp _ _ _ _ (w.alloc (.cells (PList.C x) 103))
  generalize w.alloc (.cells (PList.C x) 103) = wb at *
  have ho : OwnE wb.drew B 103 2 PList.C (.slice A0 l.length c0) l := OwnE.below (OwnE.below h hb1) ⟨rfl, rfl, rfl, Nat.le_refl _, fun _ _ => rfl⟩
  obtain ⟨A5, m5, c5, w5, hr, ho5, hg5, hn5⟩ := ho.push (P := Tryz.prog) (by show B ≤ wb.heap.size; omega) kPList.sl kPList.info (by decide) (fun _ => rfl) x hone (by omega) (by decide) 23
  obtain ⟨gg, cap', cur, e5, hgB, -, -⟩ := ho5.part (by decide) (fun _ => rfl) (k := l.length) (by simp)
  rw [List.length_append, List.length_singleton] at e5
  injection e5 with e6 e7 e8
  subst e6 e7 e8
  have cr : wb.cell? ⟨G, O, none⟩ = some (.slice A0 l.length c0) := (hb1.cell (p := ⟨G, O, none⟩) hlt).trans hc
  have cra : ∀ o, (wb.alloc o).cell? ⟨G, O, none⟩ = some (.slice A0 l.length c0) := fun o => (World.cell?_alloc_lt wb o ⟨G, O, none⟩ (by show G < _; omega)).trans cr
  obtain ⟨c6, f6⟩ := own_kept (w := w) (w1 := w5) (v := .slice A0 l.length c0) (row := (Value.slice A0 l.length c0).ownBlock) ⟨hg5.os.trans hb1.os, hg5.tape.trans hb1.tape, hg5.output.trans hb1.output, Nat.le_trans hb1.size hg5.size, fun k hk hne => (hg5.block k (by show k < wb.heap.size; omega) hne).trans (hb1.block k hk)⟩ hG hc hz
  have HG5 : Hid (w.grownBy w5 (Value.slice A0 l.length c0).ownBlock) := Lib.hid ⟨hg5.os.trans hb1.os, hg5.tape.trans hb1.tape, hg5.output.trans hb1.output, Nat.le_trans hb1.size hg5.size, fun k hk hne => (hg5.block k (by show k < wb.heap.size; omega) hne).trans (hb1.block k hk)⟩
  have cx0 : wb.cell? ⟨w.heap.size, 0, none⟩ = .some (strV x.name) := HX.out.cell 0
  have cx1 : wb.cell? ⟨w.heap.size, 1, none⟩ = .some (x.v) := HX.out.cell 1
  have HR := Lib.hid hr
  have HO5 := Lib.hid ho5
  have HN5 := Lib.hid hn5
  have HB1 := Lib.hid hb1
  clear hr ho5 hn5 hg5 HX ho h hc hz hb1
  go_wp2_with fail
  go_region_law (refine step_appendR rfl _ _ 23 23 rfl (.slice A0 l.length c0) (.slice (some ⟨wb.heap.size, 0, none⟩) 1 1) (by simp [Act.eval]) (by simp [Act.eval]) HR.out ?_)
  all_goals
    go_wp2_with fail
    have cn : (w5.setCell ⟨G, O, none⟩ (.slice (some ⟨gg, 0, none⟩) (l.length + 1) c5)).cell? ⟨G, O, none⟩ = some (.slice (some ⟨gg, 0, none⟩) (l.length + 1) c5) := World.cell?_setCell_same _ _ _ c6
    have d0 : IntKind.i64.wrap (l.length : Int) = (l.length : Int) := by rw [IntKind.wrap_i64]; omega
    have d1 : (0 : Int) ≤ (l.length : Int) := by omega
    have d2 : (l.length : Int) < (l.length : Int) + 1 := by omega
    go_region_held3 (fun w' => w'.cell? ⟨G, O, none⟩ = some (.slice (some ⟨gg, 0, none⟩) (l.length + 1) c5)) (assumption) (fail)
    go_wp2_with fail
    go_ret
    refine ⟨w5.drew, gg, c5, rfl, OwnE.below HO5.out ⟨rfl, rfl, rfl, Nat.le_refl _, fun _ _ => rfl⟩, ⟨HG5.out.os, HG5.out.tape, HG5.out.output, HG5.out.size, HG5.out.block⟩, ?_, rfl⟩
    rcases HN5.out with q | q | ⟨k, q, hk⟩
    · exact .inl q.symm
    · cases q
    · injection q with q
      subst q
      have hk' : wb.heap.size ≤ gg := hk
      exact .inr (by omega)
set_option maxRecDepth 8000 in
set_option maxHeartbeats 4000000 in
theorem addRMap : AddSt RMap 108 2 79 RMap.C := by
  intro B G O v l x w h hc hz hG hB hl hone
  obtain ⟨A0, c0, rfl⟩ : ∃ A0 c0, v = .slice A0 l.length c0 := by obtain ⟨A0, c0, e, -⟩ := h.slv; exact ⟨A0, c0, e⟩
  have hlt : G < w.heap.size := World.block_lt_of_cell? w _ hc
  have HX := Lib.hid (HasC.new w 108 (RMap.C x))
  have hsz : (w.alloc (.cells (RMap.C x) 108)).heap.size = w.heap.size + 1 := by simp
  have hb1 : Below w.heap.size w (w.alloc (.cells (RMap.C x) 108)) := (Below.refl _ w).alloc (Nat.le_refl _) _
  go_enter Tryz.func79, Tryz.ntmps79
  go_upto_region 1 with (fail)
  change Code.wp _ _ _ _ (w.alloc (.cells (RMap.C x) 108))
  generalize w.alloc (.cells (RMap.C x) 108) = wb at *
  have ho : OwnE wb.drew B 108 2 RMap.C (.slice A0 l.length c0) l := OwnE.below (OwnE.below h hb1) ⟨rfl, rfl, rfl, Nat.le_refl _, fun _ _ => rfl⟩
  obtain ⟨A5, m5, c5, w5, hr, ho5, hg5, hn5⟩ := ho.push (P := Tryz.prog) (by show B ≤ wb.heap.size; omega) kRMap.sl kRMap.info (by decide) (fun _ => rfl) x hone (by omega) (by decide) 24
  obtain ⟨gg, cap', cur, e5, hgB, -, -⟩ := ho5.part (by decide) (fun _ => rfl) (k := l.length) (by simp)
  rw [List.length_append, List.length_singleton] at e5
  injection e5 with e6 e7 e8
  subst e6 e7 e8
  have cr : wb.cell? ⟨G, O, none⟩ = some (.slice A0 l.length c0) := (hb1.cell (p := ⟨G, O, none⟩) hlt).trans hc
  have cra : ∀ o, (wb.alloc o).cell? ⟨G, O, none⟩ = some (.slice A0 l.length c0) := fun o => (World.cell?_alloc_lt wb o ⟨G, O, none⟩ (by show G < _; omega)).trans cr
  obtain ⟨c6, f6⟩ := own_kept (w := w) (w1 := w5) (v := .slice A0 l.length c0) (row := (Value.slice A0 l.length c0).ownBlock) ⟨hg5.os.trans hb1.os, hg5.tape.trans hb1.tape, hg5.output.trans hb1.output, Nat.le_trans hb1.size hg5.size, fun k hk hne => (hg5.block k (by show k < wb.heap.size; omega) hne).trans (hb1.block k hk)⟩ hG hc hz
  have HG5 : Hid (w.grownBy w5 (Value.slice A0 l.length c0).ownBlock) := Lib.hid ⟨hg5.os.trans hb1.os, hg5.tape.trans hb1.tape, hg5.output.trans hb1.output, Nat.le_trans hb1.size hg5.size, fun k hk hne => (hg5.block k (by show k < wb.heap.size; omega) hne).trans (hb1.block k hk)⟩
  have cx0 : wb.cell? ⟨w.heap.size, 0, none⟩ = .some (strV x.name) := HX.out.cell 0
  have cx1 : wb.cell? ⟨w.heap.size, 1, none⟩ = .some (x.v) := HX.out.cell 1
  have HR := Lib.hid hr
  have HO5 := Lib.hid ho5
  have HN5 := Lib.hid hn5
  have HB1 := Lib.hid hb1
  clear hr ho5 hn5 hg5 HX ho h hc hz hb1
  go_wp2_with fail
  go_region_law (refine step_appendR rfl _ _ 24 24 rfl (.slice A0 l.length c0) (.slice (some ⟨wb.heap.size, 0, none⟩) 1 1) (by simp [Act.eval]) (by simp [Act.eval]) HR.out ?_)
  all_goals
    go_wp2_with fail
    have cn : (w5.setCell ⟨G, O, none⟩ (.slice (some ⟨gg, 0, none⟩) (l.length + 1) c5)).cell? ⟨G, O, none⟩ = some (.slice (some ⟨gg, 0, none⟩) (l.length + 1) c5) := World.cell?_setCell_same _ _ _ c6
    have d0 : IntKind.i64.wrap (l.length : Int) = (l.length : Int) := by rw [IntKind.wrap_i64]; omega
    have d1 : (0 : Int) ≤ (l.length : Int) := by omega
    have d2 : (l.length : Int) < (l.length : Int) + 1 := by omega
    go_region_held3 (fun w' => w'.cell? ⟨G, O, none⟩ = some (.slice (some ⟨gg, 0, none⟩) (l.length + 1) c5)) (assumption) (fail)
    go_wp2_with fail
    go_ret
    refine ⟨w5.drew, gg, c5, rfl, OwnE.below HO5.out ⟨rfl, rfl, rfl, Nat.le_refl _, fun _ _ => rfl⟩, ⟨HG5.out.os, HG5.out.tape, HG5.out.output, HG5.out.size, HG5.out.block⟩, ?_, rfl⟩
    rcases HN5.out with q | q | ⟨k, q, hk⟩
    · exact .inl q.symm
    · cases q
    · injection q with q
      subst q
      have hk' : wb.heap.size ≤ gg := hk
      exact .inr (by omega)
set_option maxRecDepth 8000 in
set_option maxHeartbeats 4000000 in
theorem addAList : AddSt AList 113 2 81 AList.C := by
  intro B G O v l x w h hc hz hG hB hl hone
  obtain ⟨A0, c0, rfl⟩ : ∃ A0 c0, v = .slice A0 l.length c0 := by obtain ⟨A0, c0, e, -⟩ := h.slv; exact ⟨A0, c0, e⟩
  have hlt : G < w.heap.size := World.block_lt_of_cell? w _ hc
  have HX := Lib.hid (HasC.new w 113 (AList.C x))
  have hsz : (w.alloc (.cells (AList.C x) 113)).heap.size = w.heap.size + 1 := by simp
  have hb1 : Below w.heap.size w (w.alloc (.cells (AList.C x) 113)) := (Below.refl _ w).alloc (Nat.le_refl _) _
  go_enter Tryz.func81, Tryz.ntmps81
  go_upto_region 1 with (fail)
  change Code.wp _ _ _ _ (w.alloc (.cells (AList.C x) 113))
  generalize w.alloc (.cells (AList.C x) 113) = wb at *
  have ho : OwnE wb.drew B 113 2 AList.C (.slice A0 l.length c0) l := OwnE.below (OwnE.below h hb1) ⟨rfl, rfl, rfl, Nat.le_refl _, fun _ _ => rfl⟩
  obtain ⟨A5, m5, c5, w5, hr, ho5, hg5, hn5⟩ := ho.push (P := Tryz.prog) (by show B ≤ wb.heap.size; omega) kAList.sl kAList.info (by decide) (fun _ => rfl) x hone (by omega) (by decide) 25
  obtain ⟨gg, cap', cur, e5, hgB, -, -⟩ := ho5.part (by decide) (fun _ => rfl) (k := l.length) (by simp)
  rw [List.length_append, List.length_singleton] at e5
  injection e5 with e6 e7 e8
  subst e6 e7 e8
  have cr : wb.cell? ⟨G, O, none⟩ = some (.slice A0 l.length c0) := (hb1.cell (p := ⟨G, O, none⟩) hlt).trans hc
  have cra : ∀ o, (wb.alloc o).cell? ⟨G, O, none⟩ = some (.slice A0 l.length c0) := fun o => (World.cell?_alloc_lt wb o ⟨G, O, none⟩ (by show G < _; omega)).trans cr
  obtain ⟨c6, f6⟩ := own_kept (w := w) (w1 := w5) (v := .slice A0 l.length c0) (row := (Value.slice A0 l.length c0).ownBlock) ⟨hg5.os.trans hb1.os, hg5.tape.trans hb1.tape, hg5.output.trans hb1.output, Nat.le_trans hb1.size hg5.size, fun k hk hne => (hg5.block k (by show k < wb.heap.size; omega) hne).trans (hb1.block k hk)⟩ hG hc hz
  have HG5 : Hid (w.grownBy w5 (Value.slice A0 l.length c0).ownBlock) := Lib.hid ⟨hg5.os.trans hb1.os, hg5.tape.trans hb1.tape, hg5.output.trans hb1.output, Nat.le_trans hb1.size hg5.size, fun k hk hne => (hg5.block k (by show k < wb.heap.size; omega) hne).trans (hb1.block k hk)⟩
  have cx0 : wb.cell? ⟨w.heap.size, 0, none⟩ = .some (strV x.name) := HX.out.cell 0
  have cx1 : wb.cell? ⟨w.heap.size, 1, none⟩ = .some (x.v) := HX.out.cell 1
  have HR := Lib.hid hr
  have HO5 := Lib.hid ho5
  have HN5 := Lib.hid hn5
  have HB1 := Lib.hid hb1
  clear hr ho5 hn5 hg5 HX ho h hc hz hb1
  go_wp2_with fail
  go_region_law (refine step_appendR rfl _ _ 25 25 rfl (.slice A0 l.length c0) (.slice (some ⟨wb.heap.size, 0, none⟩) 1 1) (by simp [Act.eval]) (by simp [Act.eval]) HR.out ?_)
  all_goals
    go_wp2_with fail
    have cn : (w5.setCell ⟨G, O, none⟩ (.slice (some ⟨gg, 0, none⟩) (l.length + 1) c5)).cell? ⟨G, O, none⟩ = some (.slice (some ⟨gg, 0, none⟩) (l.length + 1) c5) := World.cell?_setCell_same _ _ _ c6
    have d0 : IntKind.i64.wrap (l.length : Int) = (l.length : Int) := by rw [IntKind.wrap_i64]; omega
    have d1 : (0 : Int) ≤ (l.length : Int) := by omega
    have d2 : (l.length : Int) < (l.length : Int) + 1 := by omega
    go_region_held3 (fun w' => w'.cell? ⟨G, O, none⟩ = some (.slice (some ⟨gg, 0, none⟩) (l.length + 1) c5)) (assumption) (fail)
    go_wp2_with fail
    go_ret
    refine ⟨w5.drew, gg, c5, rfl, OwnE.below HO5.out ⟨rfl, rfl, rfl, Nat.le_refl _, fun _ _ => rfl⟩, ⟨HG5.out.os, HG5.out.tape, HG5.out.output, HG5.out.size, HG5.out.block⟩, ?_, rfl⟩
    rcases HN5.out with q | q | ⟨k, q, hk⟩
    · exact .inl q.symm
    · cases q
    · injection q with q
      subst q
      have hk' : wb.heap.size ≤ gg := hk
      exact .inr (by omega)
set_option maxRecDepth 8000 in
set_option maxHeartbeats 4000000 in
theorem addCl : AddSt Cl 110 7 129 Cl.C := by
  intro B G O v l x w h hc hz hG hB hl hone
  obtain ⟨A0, c0, rfl⟩ : ∃ A0 c0, v = .slice A0 l.length c0 := by obtain ⟨A0, c0, e, -⟩ := h.slv; exact ⟨A0, c0, e⟩
  have hlt : G < w.heap.size := World.block_lt_of_cell? w _ hc
  have HX := Lib.hid (HasC.new w 110 (Cl.C x))
  have hsz : (w.alloc (.cells (Cl.C x) 110)).heap.size = w.heap.size + 1 := by simp
  have hb1 : Below w.heap.size w (w.alloc (.cells (Cl.C x) 110)) := (Below.refl _ w).alloc (Nat.le_refl _) _
  go_enter Tryz.func129, Tryz.ntmps129
  go_upto_region 1 with (fail)
  change Code.wp _ _ _ _ (w.alloc (.cells (Cl.C x) 110))
  generalize w.alloc (.cells (Cl.C x) 110) = wb at *
  have ho : OwnE wb.drew B 110 7 Cl.C (.slice A0 l.length c0) l := OwnE.below (OwnE.below h hb1) ⟨rfl, rfl, rfl, Nat.le_refl _, fun _ _ => rfl⟩
  obtain ⟨A5, m5, c5, w5, hr, ho5, hg5, hn5⟩ := ho.push (P := Tryz.prog) (by show B ≤ wb.heap.size; omega) kCl.sl kCl.info (by decide) (fun _ => rfl) x hone (by omega) (by decide) 106
  obtain ⟨gg, cap', cur, e5, hgB, -, -⟩ := ho5.part (by decide) (fun _ => rfl) (k := l.length) (by simp)
  rw [List.length_append, List.length_singleton] at e5
  injection e5 with e6 e7 e8
  subst e6 e7 e8
  have cr : wb.cell? ⟨G, O, none⟩ = some (.slice A0 l.length c0) := (hb1.cell (p := ⟨G, O, none⟩) hlt).trans hc
  have cra : ∀ o, (wb.alloc o).cell? ⟨G, O, none⟩ = some (.slice A0 l.length c0) := fun o => (World.cell?_alloc_lt wb o ⟨G, O, none⟩ (by show G < _; omega)).trans cr
  obtain ⟨c6, f6⟩ := own_kept (w := w) (w1 := w5) (v := .slice A0 l.length c0) (row := (Value.slice A0 l.length c0).ownBlock) ⟨hg5.os.trans hb1.os, hg5.tape.trans hb1.tape, hg5.output.trans hb1.output, Nat.le_trans hb1.size hg5.size, fun k hk hne => (hg5.block k (by show k < wb.heap.size; omega) hne).trans (hb1.block k hk)⟩ hG hc hz
  have HG5 : Hid (w.grownBy w5 (Value.slice A0 l.length c0).ownBlock) := Lib.hid ⟨hg5.os.trans hb1.os, hg5.tape.trans hb1.tape, hg5.output.trans hb1.output, Nat.le_trans hb1.size hg5.size, fun k hk hne => (hg5.block k (by show k < wb.heap.size; omega) hne).trans (hb1.block k hk)⟩
  have cx0 : wb.cell? ⟨w.heap.size, 0, none⟩ = .some (.bool x.permit) := HX.out.cell 0
  have cx1 : wb.cell? ⟨w.heap.size, 1, none⟩ = .some (strV x.list) := HX.out.cell 1
  have cx2 : wb.cell? ⟨w.heap.size, 2, none⟩ = .some (.int .i64 x.tag) := HX.out.cell 2
  have cx3 : wb.cell? ⟨w.heap.size, 3, none⟩ = .some (.int .i64 x.setM) := HX.out.cell 3
  have cx4 : wb.cell? ⟨w.heap.size, 4, none⟩ = .some (.int .i64 x.setT) := HX.out.cell 4
  have cx5 : wb.cell? ⟨w.heap.size, 5, none⟩ = .some (.int .i64 x.setP) := HX.out.cell 5
  have cx6 : wb.cell? ⟨w.heap.size, 6, none⟩ = .some (.int .i64 x.prep) := HX.out.cell 6
  have HR := Lib.hid hr
  have HO5 := Lib.hid ho5
  have HN5 := Lib.hid hn5
  have HB1 := Lib.hid hb1
  clear hr ho5 hn5 hg5 HX ho h hc hz hb1
  go_wp2_with fail
  go_region_law (refine step_appendR rfl _ _ 106 106 rfl (.slice A0 l.length c0) (.slice (some ⟨wb.heap.size, 0, none⟩) 1 1) (by simp [Act.eval]) (by simp [Act.eval]) HR.out ?_)
  all_goals
    go_wp2_with fail
    have cn : (w5.setCell ⟨G, O, none⟩ (.slice (some ⟨gg, 0, none⟩) (l.length + 1) c5)).cell? ⟨G, O, none⟩ = some (.slice (some ⟨gg, 0, none⟩) (l.length + 1) c5) := World.cell?_setCell_same _ _ _ c6
    have d0 : IntKind.i64.wrap (l.length : Int) = (l.length : Int) := by rw [IntKind.wrap_i64]; omega
    have d1 : (0 : Int) ≤ (l.length : Int) := by omega
    have d2 : (l.length : Int) < (l.length : Int) + 1 := by omega
    go_region_held3 (fun w' => w'.cell? ⟨G, O, none⟩ = some (.slice (some ⟨gg, 0, none⟩) (l.length + 1) c5)) (assumption) (fail)
    go_wp2_with fail
    go_ret
    refine ⟨w5.drew, gg, c5, rfl, OwnE.below HO5.out ⟨rfl, rfl, rfl, Nat.le_refl _, fun _ _ => rfl⟩, ⟨HG5.out.os, HG5.out.tape, HG5.out.output, HG5.out.size, HG5.out.block⟩, ?_, rfl⟩
    rcases HN5.out with q | q | ⟨k, q, hk⟩
    · exact .inl q.symm
    · cases q
    · injection q with q
      subst q
      have hk' : wb.heap.size ≤ gg := hk
      exact .inr (by omega)
set_option maxRecDepth 8000 in
set_option maxHeartbeats 4000000 in
theorem addRu : AddSt Ru 119 10 133 Ru.C := by
  intro B G O v l x w h hc hz hG hB hl hone
  obtain ⟨A0, c0, rfl⟩ : ∃ A0 c0, v = .slice A0 l.length c0 := by obtain ⟨A0, c0, e, -⟩ := h.slv; exact ⟨A0, c0, e⟩
  have hlt : G < w.heap.size := World.block_lt_of_cell? w _ hc
  have HX := Lib.hid (HasC.new w 119 (Ru.C x))
  have hsz : (w.alloc (.cells (Ru.C x) 119)).heap.size = w.heap.size + 1 := by simp
  have hb1 : Below w.heap.size w (w.alloc (.cells (Ru.C x) 119)) := (Below.refl _ w).alloc (Nat.le_refl _) _
  go_enter Tryz.func133, Tryz.ntmps133
  go_upto_region 1 with (fail)
  change Code.wp _ _ _ _ (w.alloc (.cells (Ru.C x) 119))
  generalize w.alloc (.cells (Ru.C x) 119) = wb at *
  have ho : OwnE wb.drew B 119 10 Ru.C (.slice A0 l.length c0) l := OwnE.below (OwnE.below h hb1) ⟨rfl, rfl, rfl, Nat.le_refl _, fun _ _ => rfl⟩
  obtain ⟨A5, m5, c5, w5, hr, ho5, hg5, hn5⟩ := ho.push (P := Tryz.prog) (by show B ≤ wb.heap.size; omega) kRu.sl kRu.info (by decide) (fun _ => rfl) x hone (by omega) (by decide) 111
  obtain ⟨gg, cap', cur, e5, hgB, -, -⟩ := ho5.part (by decide) (fun _ => rfl) (k := l.length) (by simp)
  rw [List.length_append, List.length_singleton] at e5
  injection e5 with e6 e7 e8
  subst e6 e7 e8
  have cr : wb.cell? ⟨G, O, none⟩ = some (.slice A0 l.length c0) := (hb1.cell (p := ⟨G, O, none⟩) hlt).trans hc
  have cra : ∀ o, (wb.alloc o).cell? ⟨G, O, none⟩ = some (.slice A0 l.length c0) := fun o => (World.cell?_alloc_lt wb o ⟨G, O, none⟩ (by show G < _; omega)).trans cr
  obtain ⟨c6, f6⟩ := own_kept (w := w) (w1 := w5) (v := .slice A0 l.length c0) (row := (Value.slice A0 l.length c0).ownBlock) ⟨hg5.os.trans hb1.os, hg5.tape.trans hb1.tape, hg5.output.trans hb1.output, Nat.le_trans hb1.size hg5.size, fun k hk hne => (hg5.block k (by show k < wb.heap.size; omega) hne).trans (hb1.block k hk)⟩ hG hc hz
  have HG5 : Hid (w.grownBy w5 (Value.slice A0 l.length c0).ownBlock) := Lib.hid ⟨hg5.os.trans hb1.os, hg5.tape.trans hb1.tape, hg5.output.trans hb1.output, Nat.le_trans hb1.size hg5.size, fun k hk hne => (hg5.block k (by show k < wb.heap.size; omega) hne).trans (hb1.block k hk)⟩
  have cx0 : wb.cell? ⟨w.heap.size, 0, none⟩ = .some (.bool x.permit) := HX.out.cell 0
  have cx1 : wb.cell? ⟨w.heap.size, 1, none⟩ = .some (.int .i64 x.proto) := HX.out.cell 1
  have cx2 : wb.cell? ⟨w.heap.size, 2, none⟩ = .some (.int .u32 (x.sa : Int)) := HX.out.cell 2
  have cx3 : wb.cell? ⟨w.heap.size, 3, none⟩ = .some (.int .u32 (x.sm : Int)) := HX.out.cell 3
  have cx4 : wb.cell? ⟨w.heap.size, 4, none⟩ = .some (.int .u32 (x.da : Int)) := HX.out.cell 4
  have cx5 : wb.cell? ⟨w.heap.size, 5, none⟩ = .some (.int .u32 (x.dm : Int)) := HX.out.cell 5
  have cx6 : wb.cell? ⟨w.heap.size, 6, none⟩ = .some (.int .i64 x.slo) := HX.out.cell 6
  have cx7 : wb.cell? ⟨w.heap.size, 7, none⟩ = .some (.int .i64 x.shi) := HX.out.cell 7
  have cx8 : wb.cell? ⟨w.heap.size, 8, none⟩ = .some (.int .i64 x.dlo) := HX.out.cell 8
  have cx9 : wb.cell? ⟨w.heap.size, 9, none⟩ = .some (.int .i64 x.dhi) := HX.out.cell 9
  have HR := Lib.hid hr
  have HO5 := Lib.hid ho5
  have HN5 := Lib.hid hn5
  have HB1 := Lib.hid hb1
  clear hr ho5 hn5 hg5 HX ho h hc hz hb1
  go_wp2_with fail
  go_region_law (refine step_appendR rfl _ _ 111 111 rfl (.slice A0 l.length c0) (.slice (some ⟨wb.heap.size, 0, none⟩) 1 1) (by simp [Act.eval]) (by simp [Act.eval]) HR.out ?_)
  all_goals
    go_wp2_with fail
    have cn : (w5.setCell ⟨G, O, none⟩ (.slice (some ⟨gg, 0, none⟩) (l.length + 1) c5)).cell? ⟨G, O, none⟩ = some (.slice (some ⟨gg, 0, none⟩) (l.length + 1) c5) := World.cell?_setCell_same _ _ _ c6
    have d0 : IntKind.i64.wrap (l.length : Int) = (l.length : Int) := by rw [IntKind.wrap_i64]; omega
    have d1 : (0 : Int) ≤ (l.length : Int) := by omega
    have d2 : (l.length : Int) < (l.length : Int) + 1 := by omega
    go_region_held3 (fun w' => w'.cell? ⟨G, O, none⟩ = some (.slice (some ⟨gg, 0, none⟩) (l.length + 1) c5)) (assumption) (fail)
    go_wp2_with fail
    go_ret
    refine ⟨w5.drew, gg, c5, rfl, OwnE.below HO5.out ⟨rfl, rfl, rfl, Nat.le_refl _, fun _ _ => rfl⟩, ⟨HG5.out.os, HG5.out.tape, HG5.out.output, HG5.out.size, HG5.out.block⟩, ?_, rfl⟩
    rcases HN5.out with q | q | ⟨k, q, hk⟩
    · exact .inl q.symm
    · cases q
    · injection q with q
      subst q
      have hk' : wb.heap.size ≤ gg := hk
      exact .inr (by omega)
set_option maxRecDepth 8000 in
set_option maxHeartbeats 4000000 in
theorem addSr : AddSt Sr 73 7 136 Sr.C := by
  intro B G O v l x w h hc hz hG hB hl hone
  obtain ⟨A0, c0, rfl⟩ : ∃ A0 c0, v = .slice A0 l.length c0 := by obtain ⟨A0, c0, e, -⟩ := h.slv; exact ⟨A0, c0, e⟩
  have hlt : G < w.heap.size := World.block_lt_of_cell? w _ hc
  have HX := Lib.hid (HasC.new w 73 (Sr.C x))
  have hsz : (w.alloc (.cells (Sr.C x) 73)).heap.size = w.heap.size + 1 := by simp
  have hb1 : Below w.heap.size w (w.alloc (.cells (Sr.C x) 73)) := (Below.refl _ w).alloc (Nat.le_refl _) _
  go_enter Tryz.func136, Tryz.ntmps136
  go_upto_region 1 with (fail)
  change Code.wp _ _ _ _ (w.alloc (.cells (Sr.C x) 73))
  generalize w.alloc (.cells (Sr.C x) 73) = wb at *
  have ho : OwnE wb.drew B 73 7 Sr.C (.slice A0 l.length c0) l := OwnE.below (OwnE.below h hb1) ⟨rfl, rfl, rfl, Nat.le_refl _, fun _ _ => rfl⟩
  obtain ⟨A5, m5, c5, w5, hr, ho5, hg5, hn5⟩ := ho.push (P := Tryz.prog) (by show B ≤ wb.heap.size; omega) kSr.sl kSr.info (by decide) (fun _ => rfl) x hone (by omega) (by decide) 27
  obtain ⟨gg, cap', cur, e5, hgB, -, -⟩ := ho5.part (by decide) (fun _ => rfl) (k := l.length) (by simp)
  rw [List.length_append, List.length_singleton] at e5
  injection e5 with e6 e7 e8
  subst e6 e7 e8
  have cr : wb.cell? ⟨G, O, none⟩ = some (.slice A0 l.length c0) := (hb1.cell (p := ⟨G, O, none⟩) hlt).trans hc
  have cra : ∀ o, (wb.alloc o).cell? ⟨G, O, none⟩ = some (.slice A0 l.length c0) := fun o => (World.cell?_alloc_lt wb o ⟨G, O, none⟩ (by show G < _; omega)).trans cr
  obtain ⟨c6, f6⟩ := own_kept (w := w) (w1 := w5) (v := .slice A0 l.length c0) (row := (Value.slice A0 l.length c0).ownBlock) ⟨hg5.os.trans hb1.os, hg5.tape.trans hb1.tape, hg5.output.trans hb1.output, Nat.le_trans hb1.size hg5.size, fun k hk hne => (hg5.block k (by show k < wb.heap.size; omega) hne).trans (hb1.block k hk)⟩ hG hc hz
  have HG5 : Hid (w.grownBy w5 (Value.slice A0 l.length c0).ownBlock) := Lib.hid ⟨hg5.os.trans hb1.os, hg5.tape.trans hb1.tape, hg5.output.trans hb1.output, Nat.le_trans hb1.size hg5.size, fun k hk hne => (hg5.block k (by show k < wb.heap.size; omega) hne).trans (hb1.block k hk)⟩
  have cx0 : wb.cell? ⟨w.heap.size, 0, none⟩ = .some (.int .u32 (x.pa : Int)) := HX.out.cell 0
  have cx1 : wb.cell? ⟨w.heap.size, 1, none⟩ = .some (.int .i64 x.pl) := HX.out.cell 1
  have cx2 : wb.cell? ⟨w.heap.size, 2, none⟩ = .some (.int .u32 (x.next : Int)) := HX.out.cell 2
  have cx3 : wb.cell? ⟨w.heap.size, 3, none⟩ = .some (strV x.iface) := HX.out.cell 3
  have cx4 : wb.cell? ⟨w.heap.size, 4, none⟩ = .some (.bool x.discard) := HX.out.cell 4
  have cx5 : wb.cell? ⟨w.heap.size, 5, none⟩ = .some (.int .i64 x.admin) := HX.out.cell 5
  have cx6 : wb.cell? ⟨w.heap.size, 6, none⟩ = .some (.int .i64 x.tag) := HX.out.cell 6
  have HR := Lib.hid hr
  have HO5 := Lib.hid ho5
  have HN5 := Lib.hid hn5
  have HB1 := Lib.hid hb1
  clear hr ho5 hn5 hg5 HX ho h hc hz hb1
  go_wp2_with fail
  go_region_law (refine step_appendR rfl _ _ 27 27 rfl (.slice A0 l.length c0) (.slice (some ⟨wb.heap.size, 0, none⟩) 1 1) (by simp [Act.eval]) (by simp [Act.eval]) HR.out ?_)
  all_goals
    go_wp2_with fail
    have cn : (w5.setCell ⟨G, O, none⟩ (.slice (some ⟨gg, 0, none⟩) (l.length + 1) c5)).cell? ⟨G, O, none⟩ = some (.slice (some ⟨gg, 0, none⟩) (l.length + 1) c5) := World.cell?_setCell_same _ _ _ c6
    have d0 : IntKind.i64.wrap (l.length : Int) = (l.length : Int) := by rw [IntKind.wrap_i64]; omega
    have d1 : (0 : Int) ≤ (l.length : Int) := by omega
    have d2 : (l.length : Int) < (l.length : Int) + 1 := by omega
    go_region_held3 (fun w' => w'.cell? ⟨G, O, none⟩ = some (.slice (some ⟨gg, 0, none⟩) (l.length + 1) c5)) (assumption) (fail)
    go_wp2_with fail
    go_ret
    refine ⟨w5.drew, gg, c5, rfl, OwnE.below HO5.out ⟨rfl, rfl, rfl, Nat.le_refl _, fun _ _ => rfl⟩, ⟨HG5.out.os, HG5.out.tape, HG5.out.output, HG5.out.size, HG5.out.block⟩, ?_, rfl⟩
    rcases HN5.out with q | q | ⟨k, q, hk⟩
    · exact .inl q.symm
    · cases q
    · injection q with q
      subst q
      have hk' : wb.heap.size ≤ gg := hk
      exact .inr (by omega)
set_option maxRecDepth 8000 in
set_option maxHeartbeats 4000000 in
theorem addNb : AddSt Nb 124 4 141 Nb.C := by
  intro B G O v l x w h hc hz hG hB hl hone
  obtain ⟨A0, c0, rfl⟩ : ∃ A0 c0, v = .slice A0 l.length c0 := by obtain ⟨A0, c0, e, -⟩ := h.slv; exact ⟨A0, c0, e⟩
  have hlt : G < w.heap.size := World.block_lt_of_cell? w _ hc
  have HX := Lib.hid (HasC.new w 124 (Nb.C x))
  have hsz : (w.alloc (.cells (Nb.C x) 124)).heap.size = w.heap.size + 1 := by simp
  have hb1 : Below w.heap.size w (w.alloc (.cells (Nb.C x) 124)) := (Below.refl _ w).alloc (Nat.le_refl _) _
  go_enter Tryz.func141, Tryz.ntmps141
  go_upto_region 1 with (fail)
  change Code.wp _ _ _ _ (w.alloc (.cells (Nb.C x) 124))
  generalize w.alloc (.cells (Nb.C x) 124) = wb at *
  have ho : OwnE wb.drew B 124 4 Nb.C (.slice A0 l.length c0) l := OwnE.below (OwnE.below h hb1) ⟨rfl, rfl, rfl, Nat.le_refl _, fun _ _ => rfl⟩
  obtain ⟨A5, m5, c5, w5, hr, ho5, hg5, hn5⟩ := ho.push (P := Tryz.prog) (by show B ≤ wb.heap.size; omega) kNb.sl kNb.info (by decide) (fun _ => rfl) x hone (by omega) (by decide) 34
  obtain ⟨gg, cap', cur, e5, hgB, -, -⟩ := ho5.part (by decide) (fun _ => rfl) (k := l.length) (by simp)
  rw [List.length_append, List.length_singleton] at e5
  injection e5 with e6 e7 e8
  subst e6 e7 e8
  have cr : wb.cell? ⟨G, O, none⟩ = some (.slice A0 l.length c0) := (hb1.cell (p := ⟨G, O, none⟩) hlt).trans hc
  have cra : ∀ o, (wb.alloc o).cell? ⟨G, O, none⟩ = some (.slice A0 l.length c0) := fun o => (World.cell?_alloc_lt wb o ⟨G, O, none⟩ (by show G < _; omega)).trans cr
  obtain ⟨c6, f6⟩ := own_kept (w := w) (w1 := w5) (v := .slice A0 l.length c0) (row := (Value.slice A0 l.length c0).ownBlock) ⟨hg5.os.trans hb1.os, hg5.tape.trans hb1.tape, hg5.output.trans hb1.output, Nat.le_trans hb1.size hg5.size, fun k hk hne => (hg5.block k (by show k < wb.heap.size; omega) hne).trans (hb1.block k hk)⟩ hG hc hz
  have HG5 : Hid (w.grownBy w5 (Value.slice A0 l.length c0).ownBlock) := Lib.hid ⟨hg5.os.trans hb1.os, hg5.tape.trans hb1.tape, hg5.output.trans hb1.output, Nat.le_trans hb1.size hg5.size, fun k hk hne => (hg5.block k (by show k < wb.heap.size; omega) hne).trans (hb1.block k hk)⟩
  have cx0 : wb.cell? ⟨w.heap.size, 0, none⟩ = .some (.int .u32 (x.addr : Int)) := HX.out.cell 0
  have cx1 : wb.cell? ⟨w.heap.size, 1, none⟩ = .some (.int .i64 x.asn) := HX.out.cell 1
  have cx2 : wb.cell? ⟨w.heap.size, 2, none⟩ = .some (strV x.inn) := HX.out.cell 2
  have cx3 : wb.cell? ⟨w.heap.size, 3, none⟩ = .some (strV x.out) := HX.out.cell 3
  have HR := Lib.hid hr
  have HO5 := Lib.hid ho5
  have HN5 := Lib.hid hn5
  have HB1 := Lib.hid hb1
  clear hr ho5 hn5 hg5 HX ho h hc hz hb1
  go_wp2_with fail
  go_region_law (refine step_appendR rfl _ _ 34 34 rfl (.slice A0 l.length c0) (.slice (some ⟨wb.heap.size, 0, none⟩) 1 1) (by simp [Act.eval]) (by simp [Act.eval]) HR.out ?_)
  all_goals
    go_wp2_with fail
    have cn : (w5.setCell ⟨G, O, none⟩ (.slice (some ⟨gg, 0, none⟩) (l.length + 1) c5)).cell? ⟨G, O, none⟩ = some (.slice (some ⟨gg, 0, none⟩) (l.length + 1) c5) := World.cell?_setCell_same _ _ _ c6
    have d0 : IntKind.i64.wrap (l.length : Int) = (l.length : Int) := by rw [IntKind.wrap_i64]; omega
    have d1 : (0 : Int) ≤ (l.length : Int) := by omega
    have d2 : (l.length : Int) < (l.length : Int) + 1 := by omega
    go_region_held3 (fun w' => w'.cell? ⟨G, O, none⟩ = some (.slice (some ⟨gg, 0, none⟩) (l.length + 1) c5)) (assumption) (fail)
    go_wp2_with fail
    go_ret
    refine ⟨w5.drew, gg, c5, rfl, OwnE.below HO5.out ⟨rfl, rfl, rfl, Nat.le_refl _, fun _ _ => rfl⟩, ⟨HG5.out.os, HG5.out.tape, HG5.out.output, HG5.out.size, HG5.out.block⟩, ?_, rfl⟩
    rcases HN5.out with q | q | ⟨k, q, hk⟩
    · exact .inl q.symm
    · cases q
    · injection q with q
      subst q
      have hk' : wb.heap.size ≤ gg := hk
      exact .inr (by omega)
set_option maxRecDepth 8000 in
set_option maxHeartbeats 4000000 in
theorem addRd : AddSt Rd 192 5 182 Rd.C := by
  intro B G O v l x w h hc hz hG hB hl hone
  obtain ⟨A0, c0, rfl⟩ : ∃ A0 c0, v = .slice A0 l.length c0 := by obtain ⟨A0, c0, e, -⟩ := h.slv; exact ⟨A0, c0, e⟩
  have hlt : G < w.heap.size := World.block_lt_of_cell? w _ hc
  have HX := Lib.hid (HasC.new w 192 (Rd.C x))
  have hsz : (w.alloc (.cells (Rd.C x) 192)).heap.size = w.heap.size + 1 := by simp
  have hb1 : Below w.heap.size w (w.alloc (.cells (Rd.C x) 192)) := (Below.refl _ w).alloc (Nat.le_refl _) _
  go_enter Tryz.func182, Tryz.ntmps182
  go_upto_region 1 with (fail)
  change Code.wp _ _ _ _ (w.alloc (.cells (Rd.C x) 192))
  generalize w.alloc (.cells (Rd.C x) 192) = wb at *
  have ho : OwnE wb.drew B 192 5 Rd.C (.slice A0 l.length c0) l := OwnE.below (OwnE.below h hb1) ⟨rfl, rfl, rfl, Nat.le_refl _, fun _ _ => rfl⟩
  obtain ⟨A5, m5, c5, w5, hr, ho5, hg5, hn5⟩ := ho.push (P := Tryz.prog) (by show B ≤ wb.heap.size; omega) kRd.sl kRd.info (by decide) (fun _ => rfl) x hone (by omega) (by decide) 29
  obtain ⟨gg, cap', cur, e5, hgB, -, -⟩ := ho5.part (by decide) (fun _ => rfl) (k := l.length) (by simp)
  rw [List.length_append, List.length_singleton] at e5
  injection e5 with e6 e7 e8
  subst e6 e7 e8
  have cr : wb.cell? ⟨G, O, none⟩ = some (.slice A0 l.length c0) := (hb1.cell (p := ⟨G, O, none⟩) hlt).trans hc
  have cra : ∀ o, (wb.alloc o).cell? ⟨G, O, none⟩ = some (.slice A0 l.length c0) := fun o => (World.cell?_alloc_lt wb o ⟨G, O, none⟩ (by show G < _; omega)).trans cr
  obtain ⟨c6, f6⟩ := own_kept (w := w) (w1 := w5) (v := .slice A0 l.length c0) (row := (Value.slice A0 l.length c0).ownBlock) ⟨hg5.os.trans hb1.os, hg5.tape.trans hb1.tape, hg5.output.trans hb1.output, Nat.le_trans hb1.size hg5.size, fun k hk hne => (hg5.block k (by show k < wb.heap.size; omega) hne).trans (hb1.block k hk)⟩ hG hc hz
  have HG5 : Hid (w.grownBy w5 (Value.slice A0 l.length c0).ownBlock) := Lib.hid ⟨hg5.os.trans hb1.os, hg5.tape.trans hb1.tape, hg5.output.trans hb1.output, Nat.le_trans hb1.size hg5.size, fun k hk hne => (hg5.block k (by show k < wb.heap.size; omega) hne).trans (hb1.block k hk)⟩
  have cx0 : wb.cell? ⟨w.heap.size, 0, none⟩ = .some (.int .i64 x.frm) := HX.out.cell 0
  have cx1 : wb.cell? ⟨w.heap.size, 1, none⟩ = .some (.int .i64 x.metric) := HX.out.cell 1
  have cx2 : wb.cell? ⟨w.heap.size, 2, none⟩ = .some (.int .i64 x.tag) := HX.out.cell 2
  have cx3 : wb.cell? ⟨w.heap.size, 3, none⟩ = .some (strV x.map) := HX.out.cell 3
  have cx4 : wb.cell? ⟨w.heap.size, 4, none⟩ = .some (.int .i64 x.typ) := HX.out.cell 4
  have HR := Lib.hid hr
  have HO5 := Lib.hid ho5
  have HN5 := Lib.hid hn5
  have HB1 := Lib.hid hb1
  clear hr ho5 hn5 hg5 HX ho h hc hz hb1
  go_wp2_with fail
  go_region_law (refine step_appendR rfl _ _ 29 29 rfl (.slice A0 l.length c0) (.slice (some ⟨wb.heap.size, 0, none⟩) 1 1) (by simp [Act.eval]) (by simp [Act.eval]) HR.out ?_)
  all_goals
    go_wp2_with fail
    have cn : (w5.setCell ⟨G, O, none⟩ (.slice (some ⟨gg, 0, none⟩) (l.length + 1) c5)).cell? ⟨G, O, none⟩ = some (.slice (some ⟨gg, 0, none⟩) (l.length + 1) c5) := World.cell?_setCell_same _ _ _ c6
    have d0 : IntKind.i64.wrap (l.length : Int) = (l.length : Int) := by rw [IntKind.wrap_i64]; omega
    have d1 : (0 : Int) ≤ (l.length : Int) := by omega
    have d2 : (l.length : Int) < (l.length : Int) + 1 := by omega
    go_region_held3 (fun w' => w'.cell? ⟨G, O, none⟩ = some (.slice (some ⟨gg, 0, none⟩) (l.length + 1) c5)) (assumption) (fail)
    go_wp2_with fail
    go_ret
    refine ⟨w5.drew, gg, c5, rfl, OwnE.below HO5.out ⟨rfl, rfl, rfl, Nat.le_refl _, fun _ _ => rfl⟩, ⟨HG5.out.os, HG5.out.tape, HG5.out.output, HG5.out.size, HG5.out.block⟩, ?_, rfl⟩
    rcases HN5.out with q | q | ⟨k, q, hk⟩
    · exact .inl q.symm
    · cases q
    · injection q with q
      subst q
      have hk' : wb.heap.size ≤ gg := hk
      exact .inr (by omega)
end Go.Proofs.YtmddfkpkddemnaaGreatDoor
namespace Go.Proofs.YtmddfkpkddemnaaGreatDoor
open Go.RowKit
theorem HasC.loadR {P : Program} {T : TypeId} {g : Nat} {cs : Array Value} {w : World} (h : HasC T g cs w) (hr : (P.underlying T).map TypeDesc.isRow = some true) (hs : (P.info? T).map (·.size) = some cs.size) : (loadVar T ⟨g, 0, none⟩).run P w = .ok (.agg cs) w := by
  obtain ⟨d, hu, hd⟩ := row_of hr
  have := run_loadVar_mid (P := P) w g 0 T cs.toList d h.range hu hd (by simpa using hs)
  simpa using this
theorem results_cellTT {P : Program} {fn : Func} {tmps : Array Value} {w : World} {k j i : Nat} {T : TypeId} {g : Addr} {v u t : Value} (hf : fn.results = #[.cell k T, .tmp j, .tmp i]) (hk : tmps.getD k undef = .pointer (some g))
    (hj : tmps.getD j undef = u) (hi : tmps.getD i undef = t) (hl : (loadVar T g).run P w = .ok v w) : (results fn tmps).run P w = .ok (.tuple #[v, u, t]) w := by
  rw [Array.getD_eq_getD_getElem?] at hk hj hi
  unfold results
  simp [hf, hk, hj, hi, asAddr, hl]
theorem Tryz.rowTk : (Tryz.prog.underlying 54).map TypeDesc.isRow = some true := by kernel_rfl
theorem Tryz.sizeTk : (Tryz.prog.info? 54).map (·.size) = some 2 := by kernel_rfl
theorem Tryz.rowNode : (Tryz.prog.underlying 140).map TypeDesc.isRow = some true := by kernel_rfl
theorem Tryz.sizeNode : (Tryz.prog.info? 140).map (·.size) = some 4 := by kernel_rfl
theorem Tryz.infoNode : (Tryz.prog.info? 140).map (fun i => (i.zero.map (fun z => z.cells.size), i.size, i.bytes)) = some (some 4, 4, 64) := by kernel_rfl
set_option maxRecDepth 8000 in
set_option maxHeartbeats 4000000 in
theorem cnext_any {c B : Nat} {lines : Int} {x : Tk} {r : List Tk} {w : World} (h : Cu c B lines (x :: r) w) :
    Calls Tryz.prog 70 #[.pointer (some ⟨c, 0, none⟩)] w fun e w' => e = .returned (.agg #[.int .i64 x.1, strV x.2]) ∧ Cu c B lines r w' ∧ w.grownBy w' (some c) := by
  have H0 := Lib.hid h
  have hcl := h.lt
  clear h
  go_enter Tryz.func70, Tryz.ntmps70
  go_upto_region 1 with (fail)
  have HA := Lib.hid (HasC.new w 54 #[.int .i64 0, .string ⟨#[]⟩])
  have HBA := Lib.hid ((Below.refl w.heap.size w).alloc (Nat.le_refl _) (.cells #[.int .i64 0, .string ⟨#[]⟩] 54))
  change Code.wp _ _ _ _ (w.alloc (.cells #[.int .i64 0, .string ⟨#[]⟩] 54))
  generalize w.alloc (.cells #[.int .i64 0, .string ⟨#[]⟩] 54) = wA at HA HBA ⊢
  have H1 := Lib.hid (H0.out.keep HBA.out)
  obtain ⟨g, o, p, hv, c0, c1, -, hp, hm, -⟩ := H1.out.popped
  have k0 : wA.cell? ⟨c, 0, none⟩ = some (.slice (some ⟨g, o, none⟩) (r.length + 1) p) := by rw [Lib.cell_of_heap hv]; rfl
  have HV := Lib.hid hv
  have hi : (0 : Int) < (r.length : Int) + 1 := by omega
  have hcA : c < wA.heap.size := Nat.lt_of_lt_of_le hcl HBA.out.size
  have hwA : w.heap.size < wA.heap.size := blk_lt HA.out
  unfold strV at c1
  unfold maxLen at hm
  clear hv
  go_upto_region 2 with (fail)
  have HL := Lib.hid (HasC.new wA 54 #[.int .i64 x.1, .string (str x.2)])
  have HB2 := Lib.hid ((Below.refl wA.heap.size wA).alloc (Nat.le_refl _) (.cells #[.int .i64 x.1, .string (str x.2)] 54))
  change Code.wp _ _ _ _ (wA.alloc (.cells #[.int .i64 x.1, .string (str x.2)] 54))
  generalize wA.alloc (.cells #[.int .i64 x.1, .string (str x.2)] 54) = w2 at HL HB2 ⊢
  have H2 := Lib.hid (H1.out.keep HB2.out)
  obtain ⟨g', o', p', hv', -, -, -, hp', hm', hput⟩ := H2.out.popped
  have e := hv'.symm.trans ((HB2.out.block c hcA).trans HV.out)
  simp at e
  obtain ⟨⟨rfl, rfl⟩, rfl⟩ := e
  have HP := Lib.hid hput
  have k2 : w2.cell? ⟨c, 0, none⟩ = some (.slice (some ⟨g', o', none⟩) (r.length + 1) p') := by rw [Lib.cell_of_heap hv']; rfl
  have f2 : w2.frozen? ⟨c, 0, none⟩ = false := Lib.frozen_of_heap hv' 0
  have HZ : Hid (HasC 54 w.heap.size #[.int .i64 0, .string ⟨#[]⟩] w2) := Lib.hid (HA.out.keep HB2.out)
  clear hv' hput c0 c1 k0 HV
  have l0 : w2.cell? ⟨wA.heap.size, 0, none⟩ = some (.int .i64 x.1) := HL.out.cell 0
  have l1 : w2.cell? ⟨wA.heap.size, 1, none⟩ = some (.string (str x.2)) := HL.out.cell 1
  have z0 : w2.cell? ⟨w.heap.size, 0, none⟩ = some (.int .i64 0) := HZ.out.cell 0
  have z1 : w2.cell? ⟨w.heap.size, 1, none⟩ = some (.string ⟨#[]⟩) := HZ.out.cell 1
  have fz0 : w2.frozen? ⟨w.heap.size, 0, none⟩ = false := HZ.out.frz 0
  have fz1 : w2.frozen? ⟨w.heap.size, 1, none⟩ = false := HZ.out.frz 1
  have n1 : wA.heap.size ≠ c := by omega
  have n2 : w.heap.size ≠ c := by omega
  have n3 : wA.heap.size ≠ w.heap.size := by omega
  have FIN : ∀ A', (p' ≠ 1 → A' = some ⟨g', o' + 2, none⟩) → A' ≠ none →
      HasC 54 w.heap.size #[.int .i64 x.1, .string (str x.2)] (((w2.setCell ⟨c, 0, none⟩ (.slice A' r.length (p' - 1))).setCell ⟨w.heap.size, 0, none⟩ (.int .i64 x.1)).setCell ⟨w.heap.size, 1, none⟩ (.string (str x.2))) ∧
      Cu c B lines r (((w2.setCell ⟨c, 0, none⟩ (.slice A' r.length (p' - 1))).setCell ⟨w.heap.size, 0, none⟩ (.int .i64 x.1)).setCell ⟨w.heap.size, 1, none⟩ (.string (str x.2))) ∧
      w.grownBy (((w2.setCell ⟨c, 0, none⟩ (.slice A' r.length (p' - 1))).setCell ⟨w.heap.size, 0, none⟩ (.int .i64 x.1)).setCell ⟨w.heap.size, 1, none⟩ (.string (str x.2))) (some c) := by
    intro A' h1 h2
    obtain ⟨q1, q2⟩ := HP.out A' h1 h2
    have hBc : B ≤ c := H0.out.1
    have ga := grown_set (w2.setCell ⟨c, 0, none⟩ (.slice A' r.length (p' - 1))) w.heap.size 0 (.int .i64 x.1)
    have gb := grown_set ((w2.setCell ⟨c, 0, none⟩ (.slice A' r.length (p' - 1))).setCell ⟨w.heap.size, 0, none⟩ (.int .i64 x.1)) w.heap.size 1 (.string (str x.2))
    have hz := HZ.out.grown q2 (fun e => n2 (by injection e))
    refine ⟨Lib.heap_setCell_same (i := 1) (Lib.heap_setCell_same (i := 0) hz _) _, (q1.other ga (fun k e => by cases e; exact ⟨by omega, n2⟩)).other gb (fun k e => by cases e; exact ⟨by omega, n2⟩), ?_⟩
    have hb : Below w.heap.size w w2 := HBA.out.trans (HB2.out.mono HBA.out.size)
    refine ⟨gb.os.trans (ga.os.trans (q2.os.trans hb.os)), gb.tape.trans (ga.tape.trans (q2.tape.trans hb.tape)), gb.output.trans (ga.output.trans (q2.output.trans hb.output)), Nat.le_trans hb.size (Nat.le_trans q2.size (Nat.le_trans ga.size gb.size)), fun k hk hne => ?_⟩
    have h3 := q2.size
    have h4 := ga.size
    have h5 := hb.size
    exact (gb.block k (by omega) (fun e => by injection e; omega)).trans ((ga.block k (by omega) (fun e => by injection e; omega)).trans ((q2.block k (by omega) hne).trans (hb.block k hk)))
  have HF := Lib.hid FIN
  clear FIN HP hp' hm'
  go_wp2_with fail
  · have q := HF.out (some ⟨g', o', none⟩) (fun h' => absurd (by assumption) h') (by simp)
    rw [show p' - 1 = 0 from by omega] at q
    obtain ⟨q1, q2, q3⟩ := q
    refine bodyPost_ret (results_cell rfl rfl (q1.loadR Tryz.rowTk Tryz.sizeTk)) rfl ?_
    exact ⟨rfl, q2, q3⟩
  · obtain ⟨q1, q2, q3⟩ := HF.out (some ⟨g', o' + 2, none⟩) (fun _ => rfl) (by simp)
    refine bodyPost_ret (results_cell rfl rfl (q1.loadR Tryz.rowTk Tryz.sizeTk)) rfl ?_
    exact ⟨rfl, q2, q3⟩
end Go.Proofs.YtmddfkpkddemnaaGreatDoor
