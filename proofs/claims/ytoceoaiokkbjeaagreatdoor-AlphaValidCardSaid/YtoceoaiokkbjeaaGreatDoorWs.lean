/- The built-in clear at a slice of structs. No condition. -/
import Derived.Test.YtoceoaiokkbjeaaGreatDoorWq
import Derived.Test.YtoceoaiokkbjeaaGreatDoorWr
set_option maxRecDepth 8000
namespace Go.Proofs.YtoceoaiokkbjeaaGreatDoor
open Lib (hid)
open Go.RowKit Go.Shelf
theorem zBs {P : Program} {T : TypeId} {k m b : Nat} (h : (P.info? T).map (fun i => (i.zero.map (fun z => z.cells.size), i.size, i.bytes)) = some (some k, m, b)) :
  ∃ i z, P.info? T = some i ∧ i.zero = some z ∧ z.cells.size = k ∧ i.size = m ∧ i.bytes = b := by
 obtain ⟨i, hi, h2⟩ := Option.map_eq_some_iff.1 h
 simp only [Prod.mk.injEq] at h2
 obtain ⟨z, hz, h3⟩ := Option.map_eq_some_iff.1 h2.1
 exact ⟨i, z, hi, hz, h3, h2.2.1, h2.2.2⟩
section
variable {P : Program} {ops : Array Oper} {rest : List Oper} {o : Oper} {a : Act} {w : World} {Q : Exit → Act → World → Prop}
theorem wpList_build1 (hgd : o.guard = none) (t e : TypeId) (x : Operand) (ho : o.op = .buildSlice t 1 #[(0, x)]) {i : TypeInfo} {z : Value} {n : Nat} (hu : P.underlying t = some (.slice e)) (hi : P.info? e = some i) (hz : i.zero = some z)
  (hs : i.size = n) (hn : 0 < n) (hn2 : n ≤ 1000) {cs : Array Value} (hc : cs.size = n) (hx : a.eval x = .agg cs)
  (h : wpList P ops Q rest (a.put o.dst (.slice (some ⟨w.heap.size, 0, none⟩) 1 1)) (w.alloc (.cells cs e))) : wpList P ops Q (o :: rest) a w := by
 refine wpList_buildSlice hgd t e 1 #[(0, x)] ho cs i z hu hi hz (by rw [hs]; omega) (by rw [hs]; omega) ?_ h
 rw [hs]
 simp only [List.map_toArray, List.map_cons, List.map_nil, hx]
 have := Great.fill_whole (s := n) hn [.agg cs] (Array.map (fun x => z.cells[x % z.cells.size]!) (Array.range (1 * n))) (fun v hv => by obtain rfl := List.mem_singleton.1 hv; exact hc) (by simp)
 refine this.trans ?_
 simp [Value.cells]
theorem wpList_append1h (w : World) (hgd : o.guard = none) (s x : Operand) (t : TypeId)
  (ho : o.op = .call { callee := .builtin .append, args := #[s, x], argTypes := #[t, t] })
  (base : Nat) (e : TypeId) (i : TypeInfo) (z : Value) (size bts : Nat) (ht : P.underlying t = some (.slice e)) (hi : P.info? e = some i) (hz : i.zero = some z)
  (hsize : i.size = size) (hby : i.bytes = bts) (hzs : z.cells.size = size) (hsz : 0 < size)
  (v : Value) (n : Nat) (xs : List Value) (hs : a.eval s = v) (hown : w.ownsRow base e size v n xs)
  (cs : Array Value) (hx : a.eval x = .slice (some ⟨w.heap.size, 0, none⟩) 1 1) (hl : cs.size = size) (h1 : ∀ u ∈ cs.toList, u.oneCell' = true)
  (hbytes : (n + 1) * bts ≤ 140737488355328) (hpos : 1 ≤ bts) (hbase : base ≤ w.heap.size)
  (h : ∀ v' w', w'.ownsRow base e size v' (n + 1) (xs ++ cs.toList) → w.grownBy w' v.ownBlock → (v'.ownBlock = v.ownBlock ∨ v'.ownBlock = some (w.heap.size + 1)) → wpList P ops Q rest (a.put o.dst v') w') :
  wpList P ops Q (o :: rest) a (w.alloc (.cells cs e)) := by
 refine wpList_append_own_at _ hgd s x t ho base e i z size bts ht hi hz hsize hby hzs hsz v n xs hs (hown.alloc _) ⟨w.heap.size, 0, none⟩ 1 1 cs.toList hx (by simp [hl]) ?_ h1 ?_ hbytes (by simp; omega) ?_
 ·intro j u hu
  rw [zIl]
  simpa using hu
 ·have := Nat.le_mul_of_pos_right (n + 1) hpos
  simp only [maxLen]; omega
 ·intro v' w' hown' hg _ hat
  refine h v' w' hown' ?_ (by simpa using hat)
  exact ⟨hg.os, hg.tape, hg.output, Nat.le_trans (by simp) hg.size, fun k hk hne => (hg.block k (by simp; omega) hne).trans (Below.heap_alloc w _ k hk)⟩
end
def EPost {α : Type} (B : Nat) (T : TypeId) (n : Nat) (cells : α → Array Value) (v : Value) (l' : List α) (w : World) (e : Ending) (w' : World) : Prop :=
 ∃ v', e = .returned v' ∧ OwnE w' B T n cells v' l' ∧ (v'.ownBlock = v.ownBlock ∨ v'.ownBlock = none ∨ ∃ k, v'.ownBlock = some k ∧ w.heap.size ≤ k) ∧ w.grownBy w' v.ownBlock
theorem replL_idx {α : Type} (p : α → Bool) (x : α) : ∀ (l : List α) (i : Nat), (idxF p l i = -1 ∧ replL p x l = l ++ [x]) ∨ ∃ k, idxF p l i = ((i + k : Nat) : Int) ∧ k < l.length ∧ replL p x l = zAm l k x
 | [], i => .inl ⟨rfl, rfl⟩
 | y :: r, i => by
  unfold idxF replL
  cases h : p y with
  | true => exact .inr ⟨0, by simp, by simp, by simp [zAm]⟩
  | false =>
   rcases replL_idx p x r (i + 1) with ⟨h1, h2⟩ | ⟨k, h1, h2, h3⟩
   ·exact .inl ⟨by simpa using h1, by simp [h2]⟩
   ·refine .inr ⟨k + 1, ?_, by simp only [List.length_cons]; omega, ?_⟩
    ·simp only [Bool.false_eq_true, if_false]; rw [h1]; congr 1; omega
    ·simp only [Bool.false_eq_true, if_false]; rw [h3]; simp [zAm]
theorem OwnE.snoc {α : Type} {w : World} {B n : Nat} {T : TypeId} {cells : α → Array Value} {v : Value} {l : List α} {x : α} (h : w.ownsRow B T n v (l.length + 1) ((l.flatMap fun x => (cells x).toList) ++ (cells x).toList)) : OwnE w B T n cells v (l ++ [x]) := by
 unfold OwnE
 simpa using h
theorem Part.there {E : TypeId} {g o : Nat} {cur cs : Array Value} {w : World} (h : Part E g o cur cs w) : w.there g o cs.size := by
 intro j hj
 refine ⟨?_, h.frz j⟩
 rw [h.cell hj, Array.getElem?_eq_getElem hj]
 rfl
theorem zGd (a b : List Value) (o : Nat) (cur : Array Value) (h : a.length = b.length) : zAt (zAt cur o a) o b = zAt cur o b := by
 apply Array.ext_getElem?
 intro k
 rw [zCs, zCs, zCs, zAj, h]
 split <;> rfl
def PredC {α : Type} (P : Program) (g : Nat) (lb : Array Value) (enc : α → Value) (p : α → Bool) (cb : List Nat) (w : World) : Prop :=
 (∀ c ∈ cb, c < w.heap.size) ∧ ∀ (W : World) (x : α), (∀ c ∈ cb, W.heap[c]? = w.heap[c]?) → Calls P g (#[enc x] ++ lb) W fun e w' => e = .returned (.bool (p x)) ∧ Below W.heap.size W w'
theorem PredC.below {α : Type} {P : Program} {g : Nat} {lb : Array Value} {enc : α → Value} {p : α → Bool} {cb : List Nat} {w : World} (h : PredC P g lb enc p cb w) : PredBelow P g lb enc p w :=
 fun W x hb => (h.2 W x (fun c hc => hb.block c (h.1 c hc))).mono fun _ _ q => ⟨q.1, hb.trans (q.2.mono hb.size)⟩
theorem PredC.later {α : Type} {P : Program} {g : Nat} {lb : Array Value} {enc : α → Value} {p : α → Bool} {cb : List Nat} {w w' : World} (h : PredC P g lb enc p cb w) (hf : ∀ c ∈ cb, w'.heap[c]? = w.heap[c]?) (hs : w.heap.size ≤ w'.heap.size) : PredC P g lb enc p cb w' :=
 ⟨fun c hc => Nat.lt_of_lt_of_le (h.1 c hc) hs, fun W x hW => h.2 W x (fun c hc => (hW c hc).trans (hf c hc))⟩
theorem PredC.on {α : Type} {P : Program} {g : Nat} {lb : Array Value} {enc : α → Value} {p : α → Bool} {cb : List Nat} {w w' : World} (h : PredC P g lb enc p cb w) (hb : Below w.heap.size w w') : PredC P g lb enc p cb w' :=
 h.later (fun c hc => hb.block c (h.1 c hc)) hb.size
abbrev EG (g : Nat) : Prop := ∀ args w, (callFunc g args).run Tryz.prog w = .ok (.enter g args) w
structure KS (α : Type) (T S n b : Nat) (C : α → Array Value) : Prop where
 row : (Tryz.prog.underlying T).map TypeDesc.isRow = some true
 size : (Tryz.prog.info? T).map (·.size) = some n
 one : ∀ x, (C x).all (·.oneCell') = true
 info : (Tryz.prog.info? T).map (fun i => (i.zero.map (fun z => z.cells.size), i.size, i.bytes)) = some (some n, n, b)
 sl : Tryz.prog.underlying S = some (.slice T)
 agg : ∀ w, (isAgg T).run Tryz.prog w = .ok true w
 szof : ∀ w, (Go.sizeOf T).run Tryz.prog w = .ok n w
 zero : (Tryz.prog.info? T).map (fun i => i.zero.map (fun z => z.cells.toList.all (·.oneCell'))) = some (some true)
section
variable {α : Type} {T S n b : Nat} {C : α → Array Value}
theorem KS.there {w : World} {g o : Nat} {cur : Array Value} {x : α} (_ : KS α T S n b C) (hl : ∀ x, (C x).toList.length = n) (h : Part T g o cur (C x) w) : w.there g o n := by
 have := h.there
 rwa [← Array.length_toList, hl x] at this
theorem KS.new (_ : KS α T S n b C) (w : World) (x : α) : Hid (Below w.heap.size w (w.alloc (.cells (C x) T)) ∧ HasC T w.heap.size (C x) (w.alloc (.cells (C x) T)) ∧ ∀ w1 r, Below (w.alloc (.cells (C x) T)).heap.size (w.alloc (.cells (C x) T)) w1 → w.grownBy w1 r) :=
 hid ⟨(Below.refl _ w).alloc (Nat.le_refl _) _, HasC.new w T (C x), fun w1 r hb1 => zCu (World.grownBy_alloc w (.cells (C x) T) r) (hb1.mono (by simp))⟩
theorem KS.put {w : World} {g o : Nat} {cur : Array Value} {y : α} (_ : KS α T S n b C) (hl : ∀ x, (C x).toList.length = n) (h : Part T g o cur (C y) w) (x : α) : HasC T g (zAt cur o (C x).toList) (w.setCells g o (C x).toList) := by
 have hh := zBq (C x).toList o _ w h.1
 rwa [zGd (C y).toList (C x).toList o cur (by rw [hl, hl])] at hh
theorem OwnE.row {w : World} {B : Nat} {v : Value} {l : List α} (h : OwnE w B T n C v l) : w.ownsRow B T n v l.length (l.flatMap fun x => (C x).toList) := h
end
theorem kAR : KS AR 113 28 3 24 AR.C := ⟨by kernel_rfl, by kernel_rfl, fun x => AR.one x, by kernel_rfl, Tryz.underlying28, fun w => by kernel_rfl, fun w => by kernel_rfl, by kernel_rfl⟩
theorem kPf : KS Pf 72 35 2 16 Pf.C := ⟨by kernel_rfl, by kernel_rfl, fun x => Pf.one x, by kernel_rfl, Tryz.underlying35, fun w => by kernel_rfl, fun w => by kernel_rfl, by kernel_rfl⟩
theorem kAg : KS Ag 117 36 3 24 Ag.C := ⟨by kernel_rfl, by kernel_rfl, fun x => Ag.one x, by kernel_rfl, Tryz.underlying36, fun w => by kernel_rfl, fun w => by kernel_rfl, by kernel_rfl⟩
theorem kNb : KS Nb 115 34 4 48 Nb.C := ⟨by kernel_rfl, by kernel_rfl, fun x => Nb.one x, by kernel_rfl, Tryz.underlying34, fun w => by kernel_rfl, fun w => by kernel_rfl, by kernel_rfl⟩
theorem kCd : KS Cd 119 37 5 40 Cd.C := ⟨by kernel_rfl, by kernel_rfl, fun x => Cd.one x, by kernel_rfl, Tryz.underlying37, fun w => by kernel_rfl, fun w => by kernel_rfl, by kernel_rfl⟩
theorem kRd : KS Rd 151 29 5 48 Rd.C := ⟨by kernel_rfl, by kernel_rfl, fun x => Rd.one x, by kernel_rfl, Tryz.underlying29, fun w => by kernel_rfl, fun w => by kernel_rfl, by kernel_rfl⟩
theorem kSr : KS Sr 74 27 7 64 Sr.C := ⟨by kernel_rfl, by kernel_rfl, fun x => Sr.one x, by kernel_rfl, Tryz.underlying27, fun w => by kernel_rfl, fun w => by kernel_rfl, by kernel_rfl⟩
abbrev ZSt (F : Nat) : Prop := ∀ (A : Option Addr) (c : Nat) (fv : Value) (w : World), Calls Tryz.prog F #[.slice A 0 c, fv] w fun e w' => e = .returned (.int .i64 (-1)) ∧ w = w'
theorem ix_zero : (Tryz.prog.funcs[199]? = some Tryz.f199 → ZSt 199) ∧ (Tryz.prog.funcs[207]? = some Tryz.f207 → ZSt 207) ∧ (Tryz.prog.funcs[208]? = some Tryz.f208 → ZSt 208) ∧ (Tryz.prog.funcs[238]? = some Tryz.f238 → ZSt 238) ∧ (Tryz.prog.funcs[239]? = some Tryz.f239 → ZSt 239) ∧ (Tryz.prog.funcs[237]? = some Tryz.f237 → ZSt 237) ∧ (Tryz.prog.funcs[173]? = some Tryz.f173 → ZSt 173) ∧ (Tryz.prog.funcs[161]? = some Tryz.f161 → ZSt 161) ∧ (Tryz.prog.funcs[217]? = some Tryz.f217 → ZSt 217) ∧ (Tryz.prog.funcs[221]? = some Tryz.f221 → ZSt 221) ∧ (Tryz.prog.funcs[225]? = some Tryz.f225 → ZSt 225) := by
 refine ⟨?_, ?_, ?_, ?_, ?_, ?_, ?_, ?_, ?_, ?_, ?_⟩
 all_goals
  intro hf A c fv w
  refine calls_of_wp hf rfl ?_; clear hf; simp only [Tryz.ntmps199, Tryz.ntmps207, Tryz.ntmps208, Tryz.ntmps238, Tryz.ntmps239, Tryz.ntmps237, Tryz.ntmps173, Tryz.ntmps161, Tryz.ntmps217, Tryz.ntmps221, Tryz.ntmps225, List.size_toArray, List.length_cons, List.length_nil, Nat.reduceAdd, Nat.reduceSub, Array.replicate_succ, Array.replicate_zero, List.push_toArray, List.append_toArray, List.nil_append, List.cons_append]
  go_wp2_with fail
  go_loopg [8] 1 (fun _ ix wr => ix = .int .i64 0 ∧ w = wr)
  case atStart => exact ⟨rfl, rfl⟩
  case round =>
   obtain ⟨rfl, rfl⟩ := hrel
   go_wp2_with fail
   go_ret
   exact ⟨rfl, rfl⟩
abbrev IdxSt (α : Type) [Inhabited α] (k F : Nat) : Prop := ∀ (enc : α → List Value), (∀ x, (enc x).length = k) → ∀ (p : α → Bool) (g : Nat) (lb : Array Value), EG g → ∀ (b off n c : Nat) (zs : List α) (w : World), PredBelow Tryz.prog g lb (fun x => .agg (enc x).toArray) p w → n ≤ zs.length → n ≤ 9223372036854775807 → b < w.heap.size →
 (∀ j, j < zs.length → ∀ i v, (enc zs[j]!)[i]? = some v → w.cell? ⟨b, off + j * k + i, none⟩ = some v) → Calls Tryz.prog F #[.slice (some ⟨b, off, none⟩) n c, .func (.func g) #[] lb] w fun e w' => e = .returned (.int .i64 (Lib.idxBy (fun _ y => p y) (zs.take n) default)) ∧ Below w.heap.size w w'
abbrev IxSt (α : Type) (n F : Nat) (C : α → Array Value) : Prop := ∀ (v : Value) (l : List α) (p : α → Bool) (g : Nat) (lb : Array Value), EG g → ∀ w : World, SlV w w.heap.size n C v l → PredBelow Tryz.prog g lb (fun (x : α) => .agg (C x).toList.toArray) p w →
 Calls Tryz.prog F #[v, .func (.func g) #[] lb] w fun e w' => e = .returned (.int .i64 (idxF p l 0)) ∧ Below w.heap.size w w'
theorem zHn {α : Type} [Inhabited α] {n F : Nat} {C : α → Array Value} (hn : 0 < n) (hC : ∀ x, (C x).toList.length = n) (Z : ZSt F) (H : IdxSt α n F) : IxSt α n F C := by
 intro v l p g lb eg w HS hp
 rcases SlV.cells (n := n) hn hC HS with e | ⟨g', o, c, e, hg, hc⟩
 ·obtain ⟨A, c, e2, _⟩ := HS
  rw [e2, e]
  refine (Z A c _ _).mono ?_
  rintro e w' ⟨rfl, rfl⟩
  exact ⟨rfl, Below.refl _ _⟩
 ·rw [e]
  have hm := HS.len
  refine (H (fun x => (C x).toList) hC p g lb eg g' o l.length c l w hp (Nat.le_refl _) (by simp only [maxLen] at hm; omega) hg hc).mono ?_
  rintro e w' ⟨rfl, hb⟩
  exact ⟨by rw [zGj], hb⟩
theorem ixAAR_any : IxSt AR 3 199 AR.C := zHn (by decide) (fun _ => rfl) (ix_zero.1 Tryz.func199) (Tryz.slices_IndexFunc_f199 3 kAR.agg kAR.szof)
theorem ixAPf_any : IxSt Pf 2 207 Pf.C := zHn (by decide) (fun _ => rfl) (ix_zero.2.1 Tryz.func207) (Tryz.slices_IndexFunc_f207 2 kPf.agg kPf.szof)
theorem ixAAg_any : IxSt Ag 3 208 Ag.C := zHn (by decide) (fun _ => rfl) (ix_zero.2.2.1 Tryz.func208) (Tryz.slices_IndexFunc_f208 3 kAg.agg kAg.szof)
theorem ixANb_any : IxSt Nb 4 238 Nb.C := zHn (by decide) (fun _ => rfl) (ix_zero.2.2.2.1 Tryz.func238) (Tryz.slices_IndexFunc_f238 4 kNb.agg kNb.szof)
theorem ixACd_any : IxSt Cd 5 239 Cd.C := zHn (by decide) (fun _ => rfl) (ix_zero.2.2.2.2.1 Tryz.func239) (Tryz.slices_IndexFunc_f239 5 kCd.agg kCd.szof)
theorem ixARd_any : IxSt Rd 5 237 Rd.C := zHn (by decide) (fun _ => rfl) (ix_zero.2.2.2.2.2.1 Tryz.func237) (Tryz.slices_IndexFunc_f237 5 kRd.agg kRd.szof)
theorem ixASr_any : IxSt Sr 7 173 Sr.C := zHn (by decide) (fun _ => rfl) (ix_zero.2.2.2.2.2.2.1 Tryz.func173) (Tryz.slices_IndexFunc_f173 7 kSr.agg kSr.szof)
abbrev RepSt (α : Type) (T n F : Nat) (C : α → Array Value) : Prop := ∀ (B : Nat) (v : Value) (l : List α) (x : α) (p : α → Bool) (g : Nat) (lb : Array Value), EG g → ∀ w : World, OwnE w B T n C v l → B ≤ w.heap.size → ∀ cb : List Nat, PredC Tryz.prog g lb (fun (x : α) => .agg (C x).toList.toArray) p cb w → l.length ≤ 1000000000 →
 Calls Tryz.prog F #[v, .agg (C x), .func (.func g) #[] lb] w (EPost B T n C v (replL p x l) w)
set_option maxHeartbeats 40000000 in
theorem rep_all : (KS AR 113 28 3 24 AR.C → Tryz.prog.funcs[151]? = some Tryz.f151 → IxSt AR 3 199 AR.C → RepSt AR 113 3 151 AR.C) ∧
  (KS Pf 72 35 2 16 Pf.C → Tryz.prog.funcs[156]? = some Tryz.f156 → IxSt Pf 2 207 Pf.C → RepSt Pf 72 2 156 Pf.C) ∧
  (KS Ag 117 36 3 24 Ag.C → Tryz.prog.funcs[159]? = some Tryz.f159 → IxSt Ag 3 208 Ag.C → RepSt Ag 117 3 159 Ag.C) ∧
  (KS Nb 115 34 4 48 Nb.C → Tryz.prog.funcs[206]? = some Tryz.f206 → IxSt Nb 4 238 Nb.C → RepSt Nb 115 4 206 Nb.C) ∧
  (KS Cd 119 37 5 40 Cd.C → Tryz.prog.funcs[211]? = some Tryz.f211 → IxSt Cd 5 239 Cd.C → RepSt Cd 119 5 211 Cd.C) ∧
  (KS Rd 151 29 5 48 Rd.C → Tryz.prog.funcs[203]? = some Tryz.f203 → IxSt Rd 5 237 Rd.C → RepSt Rd 151 5 203 Rd.C) ∧
  (KS Sr 74 27 7 64 Sr.C → Tryz.prog.funcs[182]? = some Tryz.f182 → IxSt Sr 7 173 Sr.C → RepSt Sr 74 7 182 Sr.C) := by
 refine ⟨?_, ?_, ?_, ?_, ?_, ?_, ?_⟩
 all_goals
  intro K hf X B v l x p g lb eg w h hB cb hp hl
  obtain ⟨i0, z0, hi0, hz0, hk0, hs0, hb0⟩ := zBs K.info
  have Hi0 := hid hi0
  have Hz0 := hid hz0
  have Hk0 := hid hk0
  have Hs0 := hid hs0
  have Hb0 := hid hb0
  clear hi0 hz0 hk0 hs0 hb0
  obtain ⟨B0, H0, HN⟩ := (K.new w x).out
  have H0 := hid H0
  have h0 := hid (h.below B0)
  have HI := hid (X v l p g lb eg _ h0.out.slv (hp.on B0).below)
  have HN := hid HN
  have H1' := hid (K.one x)
  clear B0 hp
  rcases replL_idx p x l 0 with ⟨e1, e2⟩ | ⟨k, e1, hk, e2⟩
  all_goals
   rw [e1] at HI
   rw [e2]
   clear e1 e2 h
   refine calls_of_wp hf rfl ?_; clear hf; simp only [Tryz.ntmps151, Tryz.ntmps156, Tryz.ntmps159, Tryz.ntmps206, Tryz.ntmps211, Tryz.ntmps203, Tryz.ntmps182, List.size_toArray, List.length_cons, List.length_nil, Nat.reduceAdd, Nat.reduceSub, Array.replicate_succ, Array.replicate_zero, List.push_toArray, List.append_toArray, List.nil_append, List.cons_append]
   go_wp2_with fail
   refine HI.out.mono ?_
   rintro e w1 ⟨rfl, hb1⟩
   have x1 := hid (H0.out.keep hb1)
   have g1 := hid (HN.out w1 v.ownBlock hb1)
  ·have h1 := hid (h0.out.below hb1).row
   have hz1 : w.heap.size + 1 ≤ w1.heap.size := by have := hb1.size; simpa using this
   clear hb1
   go_wp2_with (first | (refine zAa rfl _ _ rfl rfl x1.out.range K.row K.size ?_) | (refine wpList_build1 rfl _ _ _ rfl K.sl Hi0.out Hz0.out Hs0.out (by decide) (by decide) (cs := x.C) rfl rfl ?_) | (at_builtin; refine wpList_append1h w1 rfl _ _ _ rfl B _ i0 _ _ _ K.sl Hi0.out Hz0.out Hs0.out Hb0.out Hk0.out (by decide) v l.length _ rfl h1.out x.C rfl rfl (fun u hu => Array.all_eq_true_iff_forall_mem.1 H1'.out u (by simpa using hu)) (by omega) (by decide) (by omega) ?_; intro v5 w5 ho5 hg5 hat5))
   go_ret
   refine ⟨v5, rfl, OwnE.snoc ho5, ?_, g1.out.trans hg5⟩
   rcases hat5 with q | q
   ·exact .inl q
   ·exact .inr (.inr ⟨_, q, by omega⟩)
  ·have h1 := h0.out.below hb1
   clear hb1 HN H0 h0 HI
   obtain ⟨gg, cap, cur, rfl, hgB, hpt, hput⟩ := h1.part (by decide) (fun _ => rfl) hk
   have HT := hid (K.there (fun _ => rfl) hpt)
   have HPt := hid hpt
   have HPut := hid hput
   clear hpt hput h1
   have q0 : (0 : Int) ≤ (k : Int) := by omega
   have q1 : ((k : Nat) : Int) < ((l.length : Nat) : Int) := by omega
   go_wp2_with (first | (refine zAa rfl _ _ rfl rfl x1.out.range K.row K.size ?_) | (refine wpList_store_mid rfl _ _ _ rfl gg _ x.C (by first | rfl | (simp; done)) rfl HT.out K.size H1'.out ?_))
   go_ret
   exact ⟨_, rfl, HPut.out _ x (K.put (fun _ => rfl) HPt.out x), .inl rfl, g1.out.trans (zAi _ _ _ _)⟩
theorem replaceAR_any : RepSt AR 113 3 151 AR.C := rep_all.1 kAR Tryz.func151 ixAAR_any
theorem replacePf_any : RepSt Pf 72 2 156 Pf.C := rep_all.2.1 kPf Tryz.func156 ixAPf_any
theorem replaceAg_any : RepSt Ag 117 3 159 Ag.C := rep_all.2.2.1 kAg Tryz.func159 ixAAg_any
theorem replaceNb_any : RepSt Nb 115 4 206 Nb.C := rep_all.2.2.2.1 kNb Tryz.func206 ixANb_any
theorem replaceCd_any : RepSt Cd 119 5 211 Cd.C := rep_all.2.2.2.2.1 kCd Tryz.func211 ixACd_any
theorem replaceRd_any : RepSt Rd 151 5 203 Rd.C := rep_all.2.2.2.2.2.1 kRd Tryz.func203 ixARd_any
theorem replaceSr_any : RepSt Sr 74 7 182 Sr.C := rep_all.2.2.2.2.2.2 kSr Tryz.func182 ixASr_any
end Go.Proofs.YtoceoaiokkbjeaaGreatDoor
namespace Go.Proofs.YtoceoaiokkbjeaaGreatDoor
open Lib (hid)
open Go.RowKit
theorem zCd (cs : Array Value) (n : Nat) : (Builtin.zeroCells cs n).size = n * cs.size := by simp [Builtin.zeroCells]
theorem zeroCells_one {cs : Array Value} (h : ∀ v ∈ cs.toList, v.oneCell' = true) (n : Nat) : ∀ v ∈ (Builtin.zeroCells cs n).toList, v.oneCell' = true := by
 intro v hv
 simp only [Builtin.zeroCells, Array.toList_map, Array.toList_range, List.mem_map, List.mem_range] at hv
 obtain ⟨i, hi, rfl⟩ := hv
 have hp : 0 < cs.size := by
  rcases Nat.eq_zero_or_pos cs.size with h0 | h0
  ·rw [h0] at hi; simp at hi
  ·exact h0
 have hm := Nat.mod_lt i hp
 refine h _ ?_
 rw [getElem!_pos cs _ hm]
 exact Array.getElem_mem_toList hm
theorem zCn {P : Program} (w : World) (t e ty : TypeId) (z : Value) (ht : P.underlying t = some (.slice e)) (hv : ∀ w, (zeroValue e).run P w = .ok z w) (h1 : ∀ v ∈ z.cells.toList, v.oneCell' = true) (b o n c : Nat) (hn : 0 < n)
  (hc : ∀ j, j < n * z.cells.size → (w.cell? ⟨b, o + j, none⟩).isSome = true) (hf : ∀ j, j < n * z.cells.size → w.frozen? ⟨b, o + j, none⟩ = false) :
  (Builtin.clear_ #[t] ty #[.slice (some ⟨b, o, none⟩) n c]).run P w = .ok (.tuple #[]) (w.setCells b o (Builtin.zeroCells z.cells n).toList) := by
 have hs := zCd z.cells n
 have hst := run_storeCells_cells (P := P) b o (Builtin.zeroCells z.cells n).toList 0 w (by intro j hj; exact hc j (by simpa [hs] using hj)) (by intro j hj; exact hf j (by simpa [hs] using hj)) (zeroCells_one h1 n)
 simp only [Nat.add_zero] at hst
 obtain ⟨m, rfl⟩ : ∃ m, n = m + 1 := ⟨n - 1, by omega⟩
 simp [Builtin.clear_, run_underlying ht, hv, hst]
theorem idxF_cases {α : Type} (p : α → Bool) : ∀ (l : List α) (i : Nat), (idxF p l i = -1 ∧ dropL p l = l) ∨ ∃ k, ∃ hk : k < l.length, idxF p l i = ((i + k : Nat) : Int) ∧ dropL p (l.take k) = l.take k ∧ p l[k] = true
 | [], _ => .inl ⟨rfl, rfl⟩
 | y :: r, i => by
  unfold idxF
  cases h : p y with
  | true => exact .inr ⟨0, by simp, by simp, rfl, h⟩
  | false =>
   rcases idxF_cases p r (i + 1) with ⟨h1, h2⟩ | ⟨k, hk, h1, h2, h3⟩
   ·refine .inl ⟨by simpa using h1, ?_⟩
    unfold dropL at h2 ⊢
    rw [List.filter_cons, h, if_pos (by decide), h2]
   ·refine .inr ⟨k + 1, by simp only [List.length_cons]; omega, ?_, ?_, by simpa using h3⟩
    ·simp only [Bool.false_eq_true, if_false]; rw [h1]; congr 1; omega
    ·unfold dropL at h2 ⊢
     rw [List.take_succ_cons, List.filter_cons, h, if_pos (by decide), h2]
structure DelInv {α : Type} (p : α → Bool) (l : List α) (i j : Nat) (m : List α) : Prop where
 len : m.length = l.length
 lt : i < j
 le : j ≤ l.length
 front : m.take i = dropL p (l.take j)
 back : m.drop j = l.drop j
section
variable {α : Type} {p : α → Bool} {l m : List α} {i j : Nat}
theorem DelInv.start {k : Nat} (hk : k < l.length) (h1 : dropL p (l.take k) = l.take k) (h2 : p l[k] = true) : DelInv p l k (k + 1) l := by
 refine ⟨rfl, Nat.lt_succ_self _, hk, ?_, rfl⟩
 unfold dropL at h1 ⊢
 rw [List.take_succ_eq_append_getElem hk, List.filter_append, h1]
 simp [h2]
theorem DelInv.at (h : DelInv p l i j m) (hj : j < l.length) : m[j]? = some l[j] := by
 have h1 := congrArg (fun z => z[0]?) h.back
 simpa [List.getElem?_drop, hj] using h1
theorem DelInv.gone (h : DelInv p l i j m) (hj : j < l.length) (hp : p l[j] = true) : DelInv p l i (j + 1) m := by
 refine ⟨h.len, Nat.lt_succ_of_lt h.lt, hj, ?_, ?_⟩
 ·rw [h.front]
  unfold dropL
  rw [List.take_succ_eq_append_getElem hj, List.filter_append]
  simp [hp]
 ·have h1 := congrArg (fun z => z.drop 1) h.back
  simpa [List.drop_drop] using h1
theorem DelInv.kept (h : DelInv p l i j m) (hj : j < l.length) (hp : p l[j] = false) : DelInv p l (i + 1) (j + 1) (zAm m i l[j]) := by
 have hi : i < m.length := by have := h.lt; have := h.len; omega
 refine ⟨by rw [zJp hi, h.len], Nat.succ_lt_succ h.lt, hj, ?_, ?_⟩
 ·unfold zAm
  rw [List.take_append, List.length_take, Nat.min_eq_left (Nat.le_of_lt hi), show i + 1 - i = 1 from by omega, List.take_take, Nat.min_eq_right (Nat.le_succ i), h.front]
  unfold dropL
  rw [List.take_succ_eq_append_getElem hj, List.filter_append]
  simp [hp]
 ·have h1 := congrArg (fun z => z.drop 1) h.back
  unfold zAm
  rw [List.drop_append, List.length_take, Nat.min_eq_left (Nat.le_of_lt hi), List.drop_eq_nil_of_le (by rw [List.length_take]; have := h.lt; omega), List.nil_append, show j + 1 - i = (j - i) + 1 from by have := h.lt; omega, List.drop_succ_cons, List.drop_drop, show i + 1 + (j - i) = j + 1 from by have := h.lt; omega]
  simpa [List.drop_drop] using h1
theorem DelInv.done (h : DelInv p l i j m) (hj : ¬ j < l.length) : m.take i = dropL p l := by
 have := h.le
 rw [h.front, List.take_of_length_le (by omega)]
end
end Go.Proofs.YtoceoaiokkbjeaaGreatDoor
