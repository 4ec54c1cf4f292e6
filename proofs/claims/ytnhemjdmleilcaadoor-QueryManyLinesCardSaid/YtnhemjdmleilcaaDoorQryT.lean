/- ParseAll of package query and of the reference. Condition: Go's own tables and the words lie below the world's blocks (EnvB). -/
import Derived.Test.YtnhemjdmleilcaaDoorQryQ
import Derived.Deep.LoopGhost
import Derived.Great.BuildSlice
namespace Go.Proofs.YtnhemjdmleilcaaDoor
open Go.RowKit

/-- The queries of lines, the line's number, the error. -/
def allOf : List (List UInt8) → Nat → List Qr → List Qr × Nat × Int
  | [], i, acc => (acc, i, 0)
  | l :: r, i, acc => if fieldsOf 35 l = [] then allOf r (i + 1) acc else if acc.length = 8 then ([], i + 1, 7) else if parseE l ≠ 0 then ([], i + 1, parseE l) else allOf r (i + 1) (acc ++ [parseQ l])
def allR (l : List UInt8) : List Qr × Nat × Int := if linesErr l ≠ 0 then ([], 0, linesErr l) else allOf (linesOf l) 0 []
def QCs (qs : List Qr) : List Value := qs.flatMap fun q => (QC q).toList
theorem QCs_snoc (qs : List Qr) (q : Qr) : QCs (qs ++ [q]) = QCs qs ++ (QC q).toList := by simp [QCs]
def AllPost (l : List UInt8) (w : World) (e : Ending) (w' : World) : Prop :=
  ∃ v, e = .returned (.tuple #[v, .int .i64 (allR l).2.1, .int .i64 (allR l).2.2]) ∧ w'.ownsRow w.heap.size 30 20 v (allR l).1.length (QCs (allR l).1) ∧ Below w.heap.size w w'
theorem allPost {l : List UInt8} {w w' : World} {v : Value} {n : Nat} {m e : Int} {qs : List Qr} (h : allR l = (qs, n, e)) (hm : m = n) (ho : w'.ownsRow w.heap.size 30 20 v qs.length (QCs qs)) (hb : Below w.heap.size w w') :
    AllPost l w (.returned (.tuple #[v, .int .i64 m, .int .i64 e])) w' := ⟨v, by rw [h, hm], by rw [h]; exact ho, hb⟩
theorem lines_len : ∀ (l cur : List UInt8) (x : List UInt8), x ∈ linesGo cur l → x.length ≤ cur.length + l.length := by
  intro l
  induction l with
  | nil =>
    intro cur x hx
    unfold linesGo flush at hx
    split at hx
    · cases hx
    · simp at hx; subst hx; simp
  | cons c r ih =>
    intro cur x hx
    unfold linesGo at hx
    split at hx
    · rcases List.mem_cons.1 hx with rfl | hx
      · simp
      · have := ih [] x hx; simp at this ⊢; omega
    · have := ih _ x hx; simp at this ⊢; omega
theorem own_below {w w' : World} {base : Nat} {e : TypeId} {size n : Nat} {v : Value} {xs : List Value} (h : w.ownsRow base e size v n xs) (hb : Below w.heap.size w w') : w'.ownsRow base e size v n xs :=
  h.kept (row := none) ⟨hb.os, hb.tape, hb.output, hb.size, fun k hk _ => hb.block k hk⟩ (by cases v.ownBlock <;> simp)
theorem slc_str {w : World} {B : Nat} {A : Option Addr} {n c : Nat} {xs : List (List UInt8)} (h : Slc w B 1 (.slice A n c) n (xs.map strV)) (hn : n = xs.length) {k : Nat} (hk : k < xs.length) :
    ∃ g o, A = some ⟨g, o, none⟩ ∧ g < B ∧ w.cell? ⟨g, o + k, none⟩ = some (.string (str xs[k])) := by
  obtain ⟨A', c', e, _, _, _, h⟩ := h
  injection e with e1 e2 e3
  subst e1
  obtain ⟨g, o, rfl, hg, hc⟩ := h (by omega)
  exact ⟨g, o, rfl, hg, hc k _ (by simp [hk, strV])⟩
theorem Tryd.qryInfo : (Tryd.prog.info? 30).map (fun i => (i.zero, i.size, i.bytes)) = some (some (QV Qr.zero), 20, 200) := by kernel_rfl
theorem drop_at {α : Type} {l : List α} {k : Nat} (h : k < l.length) : l.drop k = l[k] :: l.drop (k + 1) := (List.getElem_cons_drop h).symm
theorem all_skip {ls : List (List UInt8)} {k : Nat} {qs : List Qr} {R : List Qr × Nat × Int} (h : k < ls.length) (hR : allOf (ls.drop k) k qs = R) (hf : fieldsOf 35 ls[k] = []) : allOf (ls.drop (k + 1)) (k + 1) qs = R := by
  rw [drop_at h, allOf, if_pos hf] at hR; exact hR
theorem all_limit {ls : List (List UInt8)} {k : Nat} {qs : List Qr} {R : List Qr × Nat × Int} (h : k < ls.length) (hR : allOf (ls.drop k) k qs = R) (hf : fieldsOf 35 ls[k] ≠ []) (h8 : qs.length = 8) : R = ([], k + 1, 7) := by
  rw [drop_at h, allOf, if_neg hf, if_pos h8] at hR; exact hR.symm
theorem all_err {ls : List (List UInt8)} {k : Nat} {qs : List Qr} {R : List Qr × Nat × Int} (h : k < ls.length) (hR : allOf (ls.drop k) k qs = R) (hf : fieldsOf 35 ls[k] ≠ []) (h8 : qs.length ≠ 8) (he : parseE ls[k] ≠ 0) : R = ([], k + 1, parseE ls[k]) := by
  rw [drop_at h, allOf, if_neg hf, if_neg h8, if_pos he] at hR; exact hR.symm
theorem all_next {ls : List (List UInt8)} {k : Nat} {qs : List Qr} {R : List Qr × Nat × Int} (h : k < ls.length) (hR : allOf (ls.drop k) k qs = R) (hf : fieldsOf 35 ls[k] ≠ []) (h8 : qs.length ≠ 8) (he : parseE ls[k] = 0) : allOf (ls.drop (k + 1)) (k + 1) (qs ++ [parseQ ls[k]]) = R := by
  rw [drop_at h, allOf, if_neg hf, if_neg h8, if_neg (by rw [he]; simp)] at hR; exact hR
theorem all_done {ls : List (List UInt8)} {k : Nat} {qs : List Qr} {R : List Qr × Nat × Int} (h : ¬ k < ls.length) (hk : k ≤ ls.length) (hR : allOf (ls.drop k) k qs = R) : R = (qs, ls.length, 0) := by
  rw [List.drop_of_length_le (by omega), allOf] at hR; rw [← hR, show k = ls.length by omega]
theorem QC_ones (q : Qr) : ∀ u ∈ (QC q).toList, u.oneCell' = true := fun u hu => (Array.all_eq_true_iff_forall_mem.1 (QC_one q)) u (by simpa using hu)
theorem other_own {w : World} {base : Nat} {e : TypeId} {size n : Nat} {v : Value} {xs : List Value} (h : w.ownsRow base e size v n xs) : v.ownBlock = none ∨ v.ownBlock ≠ some w.heap.size := by
  cases hv : v.ownBlock with
  | none => exact .inl rfl
  | some k => right; intro e; injection e with e; have := (h.lt k hv).2; omega
theorem read_up {w0 w w' : World} {o : Obj} (hb : Below w0.heap.size w0 w) (hz : w0.heap.size ≤ w.heap.size) (hg : (w.alloc o).grownBy w' (some w.heap.size)) : Below w0.heap.size w0 w' :=
  hb.trans ((((Below.refl w.heap.size w).alloc (Nat.le_refl _) _).trans (below_of_grown hg (Nat.le_refl _) (by simp))).mono hz)
theorem own_base {w : World} {base base' : Nat} {e : TypeId} {size n : Nat} {v : Value} {xs : List Value} (h : w.ownsRow base e size v n xs) (hb : base' ≤ base) : w.ownsRow base' e size v n xs := by
  obtain ⟨hl, h⟩ := h
  refine ⟨hl, ?_⟩
  rcases h with h | ⟨g, cap, cur, h1, h2, h3⟩
  · exact .inl h
  · exact .inr ⟨g, cap, cur, h1, Nat.le_trans hb h2, h3⟩
/-- A slice of one query, built: the operation. -/
theorem wpList_buildQ {ops : Array Oper} {rest : List Oper} {o : Oper} {a : Act} {w : World} {Q : Exit → Act → World → Prop} (hgd : o.guard = none) (x : Operand) (ho : o.op = .buildSlice 46 1 #[(0, x)])
    {q : Qr} (hx : a.eval x = QV q) (h : wpList Tryd.prog ops Q rest (a.put o.dst (.slice (some ⟨w.heap.size, 0, none⟩) 1 1)) (w.alloc (.cells (QC q) 30))) : wpList Tryd.prog ops Q (o :: rest) a w := by
  obtain ⟨i0, hi0, hz0, hz1, hz2⟩ := info_parts Tryd.qryInfo
  refine wpList_buildSlice hgd 46 30 1 #[(0, x)] ho (QC q) i0 _ Tryd.underlying46 hi0 hz0 (by rw [hz1]; decide) (by rw [hz1]; decide) ?_ h
  rw [hz1]
  simp only [List.map_toArray, List.map_cons, List.map_nil, hx]
  have := Great.fill_whole (s := 20) (by omega) [QV q] (Array.map (fun x => (QV Qr.zero).cells[x % (QV Qr.zero).cells.size]!) (Array.range (1 * 20))) (fun v hv => by obtain rfl := List.mem_singleton.1 hv; rfl) (by simp)
  refine this.trans ?_
  simp [QV_eq, Value.cells]

set_option maxRecDepth 100000 in
set_option maxHeartbeats 4000000 in
theorem qall_any (s : ByteArray) (w : World) (he : EnvB w.heap.size w) : Calls Tryd.prog 20 #[.string s] w (AllPost (bytes s) w) := by
  obtain ⟨i0, hi0, hz0, hz1, hz2⟩ := info_parts Tryd.qryInfo
  have Hi0 := Lib.hid hi0
  have Hz0 := Lib.hid hz0
  have Hz1 := Lib.hid hz1
  have Hz2 := Lib.hid hz2
  have HE := Lib.hid he
  clear hi0 hz0 hz1 hz2 he
  go_enter Tryd.func20, Tryd.ntmps20
  go_wp2_with fail
  refine (lines_any s _).mono ?_
  rintro e w1 ⟨v1, rfl, hown, hb1⟩
  by_cases hl : linesErr (bytes s) = 0
  case neg =>
    have hn : (linesErr (bytes s) != 0) = true := by simpa using hl
    have E1 : Hid (allR (bytes s) = ([], 0, linesErr (bytes s))) := Lib.hid (by unfold allR; rw [if_pos hl])
    clear hl
    go_wp2_with fail
    go_ret3
    exact allPost E1.out rfl (World.ownsRow_nil _ _ _ _) hb1
  have hsz := len_of_lines hl
  have E1 : Hid (allR (bytes s) = allOf (linesOf (bytes s)) 0 []) := Lib.hid (by unfold allR; rw [if_neg (by rw [hl]; simp)])
  have HL : Hid (∀ x ∈ linesOf (bytes s), x.length ≤ 65536) := Lib.hid (fun x hx => by
    have := lines_len (bytes s) [] x hx
    rw [bytes_len] at this
    simp at this
    omega)
  have hR : linesRes (bytes s) = linesOf (bytes s) := by unfold linesRes; rw [if_pos hl]
  rw [hR] at hown
  have HS := Lib.hid (Slc.of_own hown)
  obtain ⟨A1, k1, rfl, hk1⟩ := own_cap hown
  rw [hl]
  have B1 := Lib.hid hb1
  have hll : (linesOf (bytes s)).length ≤ 65537 := by
    have := linesGo_len (bytes s) []
    rw [bytes_len] at this
    exact Nat.le_trans this (by omega)
  generalize linesOf (bytes s) = ls at *
  clear hl hown hb1 hR hk1
  go_wp2_with fail
  go_loopg [7, 22] ls.length (fun gh lv ix wr => ∃ (k : Nat) (qs : List Qr), gh = ls.length - k ∧ k ≤ ls.length ∧ ix = .int .i64 k ∧ qs.length ≤ 8 ∧ Hid (wr.ownsRow w1.heap.size 30 20 lv qs.length (QCs qs)) ∧ Hid (allOf (ls.drop k) k qs = allR (bytes s)) ∧ w1.heap.size ≤ wr.heap.size ∧ Below w1.heap.size w1 wr)
  case atStart => exact ⟨0, [], by omega, by omega, rfl, by simp, Lib.hid (World.ownsRow_nil _ _ _ _), Lib.hid (by rw [E1.out]; rfl), Nat.le_refl _, Below.refl _ _⟩
  case round =>
    obtain ⟨k, qs, rfl, hk, rfl, hq8, HO, HR, hzW, hbW⟩ := hrel
    obtain ⟨A7, c7, rfl, hc7⟩ := own_cap HO.out
    by_cases hlt : k < ls.length
    case neg =>
      have E2 := Lib.hid (all_done hlt hk HR.out)
      go_wp2_with fail
      go_ret3
      exact allPost E2.out rfl (own_base HO.out B1.out.size) (B1.out.trans (hbW.mono B1.out.size))
    obtain ⟨g, o, eA, hg, c1⟩ := slc_str (HS.out.below hbW) rfl hlt
    subst eA
    have hx := HL.out _ (List.getElem_mem hlt)
    have T1 := Lib.hid (fun hf => all_skip hlt HR.out hf)
    have T2 := Lib.hid (fun hf h8 => all_limit hlt HR.out hf h8)
    have T3 := Lib.hid (fun hf h8 he => all_err hlt HR.out hf h8 he)
    have T4 := Lib.hid (fun hf h8 he => all_next hlt HR.out hf h8 he)
    generalize ls[k] = x at c1 hx T1 T2 T3 T4
    go_wp2_with fail
    refine (fields_any (str x) 35 _ (by rw [str_size]; omega)).mono ?_
    rw [bytes_str]
    rintro e w2 ⟨v2, rfl, ho2, hb2⟩
    obtain ⟨A2, k2, rfl, -⟩ := own_cap ho2
    have HO2 := Lib.hid (own_below HO.out hb2)
    have c2 : w2.cell? ⟨g, o + k, none⟩ = some (.string (str x)) := (hb2.cell (p := ⟨g, o + k, none⟩) (by show g < _; omega)).trans c1
    have hzW2 : w1.heap.size ≤ w2.heap.size := Nat.le_trans hzW hb2.size
    have hbW2 : Below w1.heap.size w1 w2 := hbW.trans (hb2.mono hzW)
    clear ho2 hb2 HO c1 hbW
    cases hf : fieldsOf 35 x with
    | nil =>
      have HR2 := Lib.hid (T1.out hf)
      clear T1 T2 T3 T4 hf
      go_wp2_with fail
      go_roundg (ls.length - (k + 1))
      case measure => omega
      case rel => exact ⟨k + 1, qs, rfl, by omega, by go_num, hq8, HO2, HR2, hzW2, hbW2⟩
    | cons f fr =>
    replace T2 := Lib.hid (fun h8 => T2.out (by rw [hf]; simp) h8)
    replace T3 := Lib.hid (fun h8 he => T3.out (by rw [hf]; simp) h8 he)
    replace T4 := Lib.hid (fun h8 he => T4.out (by rw [hf]; simp) h8 he)
    have hfl : (((f :: fr).length : Int) == 0) = false := by simp; omega
    clear T1 hf
    by_cases h8 : qs.length = 8
    · have E2 := Lib.hid (T2.out h8)
      have d8 : ((qs.length : Int) == 8) = true := by rw [h8]; rfl
      clear T2 T3 T4
      go_wp2_with fail
      go_ret3
      exact allPost E2.out (by omega) (World.ownsRow_nil _ _ _ _) (B1.out.trans (hbW2.mono B1.out.size))
    have d8 : ((qs.length : Int) == 8) = false := by simp; omega
    go_wp2_with fail
    have B2 := Lib.hid (B1.out.trans (hbW2.mono B1.out.size))
    refine (qparse_any (str x) _ (HE.out.up B2.out)).mono ?_
    rintro e w3 ⟨rfl, hb3⟩
    rw [bytes_str]
    have HO3 := Lib.hid (own_below HO2.out hb3)
    have Q3 := Lib.hid (Zbox w3)
    have hzW3 : w1.heap.size ≤ w3.heap.size := Nat.le_trans hzW2 hb3.size
    have hbW3 : Below w1.heap.size w1 w3 := hbW2.trans (hb3.mono hzW2)
    clear hb3 c2 HO2 T2
    by_cases hp : parseE x = 0
    case neg =>
      have hn : (parseE x != 0) = true := by simpa using hp
      have E2 := Lib.hid (T3.out h8 hp)
      clear T3 T4 hp
      go_wp2_with (first | (refine wpList_storeQ (q' := parseQ x) rfl _ _ rfl rfl rfl Q3.out ?_; intro w4 hy1 hy2))
      go_ret3
      exact allPost E2.out (by omega) (World.ownsRow_nil _ _ _ _) (read_keep (B1.out.trans (hbW3.mono B1.out.size)) hy2)
    have HR2 := Lib.hid (T4.out h8 hp)
    rw [hp]
    clear T3 T4 hp
    go_wp2_with (first | (refine wpList_storeQ (q' := parseQ x) rfl _ _ rfl rfl rfl Q3.out ?_; intro w4 hy1 hy2; have HO4 := (HO3.out.alloc _).kept hy2 (other_own HO3.out); have hzW4 := Nat.le_trans hzW3 (Nat.le_trans (by simp) hy2.size); have hbW4 := read_up hbW3 hzW3 hy2) | (refine wpList_loadQ rfl _ rfl rfl hy1 ?_) | (refine wpList_buildQ rfl _ rfl rfl ?_) | (at_builtin; refine wpList_append1 _ rfl _ _ 46 rfl w1.heap.size 30 i0 _ 20 200 Tryd.underlying46 Hi0.out Hz0.out Hz1.out Hz2.out rfl (by decide) _ qs.length (QCs qs) rfl HO4 (QC (parseQ x)) rfl rfl (QC_ones _) (by omega) (by decide) hzW4 ?_; intro v5 w5 ho5 hb5))
    go_roundg (ls.length - (k + 1))
    case measure => omega
    case rel => exact ⟨k + 1, qs ++ [parseQ x], rfl, by omega, by go_num, by simp; omega, Lib.hid (by rw [QCs_snoc]; simpa using ho5), HR2, Nat.le_trans hzW4 hb5.size, hbW4.trans hb5⟩

set_option maxRecDepth 100000 in
set_option maxHeartbeats 4000000 in
theorem rqall_any (s : ByteArray) (w : World) (he : EnvB w.heap.size w) : Calls Tryd.prog 60 #[.string s] w (AllPost (bytes s) w) := by
  obtain ⟨i0, hi0, hz0, hz1, hz2⟩ := info_parts Tryd.qryInfo
  have Hi0 := Lib.hid hi0
  have Hz0 := Lib.hid hz0
  have Hz1 := Lib.hid hz1
  have Hz2 := Lib.hid hz2
  have HE := Lib.hid he
  clear hi0 hz0 hz1 hz2 he
  go_enter Tryd.func60, Tryd.ntmps60
  go_wp2_with fail
  refine (rlines_any s _).mono ?_
  rintro e w1 ⟨v1, rfl, hown, hb1⟩
  by_cases hl : linesErr (bytes s) = 0
  case neg =>
    have hn : (linesErr (bytes s) != 0) = true := by simpa using hl
    have E1 : Hid (allR (bytes s) = ([], 0, linesErr (bytes s))) := Lib.hid (by unfold allR; rw [if_pos hl])
    clear hl
    go_wp2_with fail
    go_ret3
    exact allPost E1.out rfl (World.ownsRow_nil _ _ _ _) hb1
  have hsz := len_of_lines hl
  have E1 : Hid (allR (bytes s) = allOf (linesOf (bytes s)) 0 []) := Lib.hid (by unfold allR; rw [if_neg (by rw [hl]; simp)])
  have HL : Hid (∀ x ∈ linesOf (bytes s), x.length ≤ 65536) := Lib.hid (fun x hx => by
    have := lines_len (bytes s) [] x hx
    rw [bytes_len] at this
    simp at this
    omega)
  have hR : linesRes (bytes s) = linesOf (bytes s) := by unfold linesRes; rw [if_pos hl]
  rw [hR] at hown
  have HS := Lib.hid (Slc.of_own hown)
  obtain ⟨A1, k1, rfl, hk1⟩ := own_cap hown
  rw [hl]
  have B1 := Lib.hid hb1
  have hll : (linesOf (bytes s)).length ≤ 65537 := by
    have := linesGo_len (bytes s) []
    rw [bytes_len] at this
    exact Nat.le_trans this (by omega)
  generalize linesOf (bytes s) = ls at *
  clear hl hown hb1 hR hk1
  go_wp2_with fail
  go_loopg [7, 8] ls.length (fun gh lv ix wr => ∃ (k : Nat) (qs : List Qr), gh = ls.length - k ∧ k ≤ ls.length ∧ ix = .int .i64 k ∧ qs.length ≤ 8 ∧ Hid (wr.ownsRow w1.heap.size 30 20 lv qs.length (QCs qs)) ∧ Hid (allOf (ls.drop k) k qs = allR (bytes s)) ∧ w1.heap.size ≤ wr.heap.size ∧ Below w1.heap.size w1 wr)
  case atStart => exact ⟨0, [], by omega, by omega, rfl, by simp, Lib.hid (World.ownsRow_nil _ _ _ _), Lib.hid (by rw [E1.out]; rfl), Nat.le_refl _, Below.refl _ _⟩
  case round =>
    obtain ⟨k, qs, rfl, hk, rfl, hq8, HO, HR, hzW, hbW⟩ := hrel
    obtain ⟨A7, c7, rfl, hc7⟩ := own_cap HO.out
    by_cases hlt : k < ls.length
    case neg =>
      have E2 := Lib.hid (all_done hlt hk HR.out)
      go_wp2_with fail
      go_ret3
      exact allPost E2.out rfl (own_base HO.out B1.out.size) (B1.out.trans (hbW.mono B1.out.size))
    obtain ⟨g, o, eA, hg, c1⟩ := slc_str (HS.out.below hbW) rfl hlt
    subst eA
    have hx := HL.out _ (List.getElem_mem hlt)
    have T1 := Lib.hid (fun hf => all_skip hlt HR.out hf)
    have T2 := Lib.hid (fun hf h8 => all_limit hlt HR.out hf h8)
    have T3 := Lib.hid (fun hf h8 he => all_err hlt HR.out hf h8 he)
    have T4 := Lib.hid (fun hf h8 he => all_next hlt HR.out hf h8 he)
    generalize ls[k] = x at c1 hx T1 T2 T3 T4
    go_wp2_with fail
    refine (rfields_any (str x) 35 _ (by rw [str_size]; omega)).mono ?_
    rw [bytes_str]
    rintro e w2 ⟨v2, rfl, ho2, hb2⟩
    obtain ⟨A2, k2, rfl, -⟩ := own_cap ho2
    have HO2 := Lib.hid (own_below HO.out hb2)
    have c2 : w2.cell? ⟨g, o + k, none⟩ = some (.string (str x)) := (hb2.cell (p := ⟨g, o + k, none⟩) (by show g < _; omega)).trans c1
    have hzW2 : w1.heap.size ≤ w2.heap.size := Nat.le_trans hzW hb2.size
    have hbW2 : Below w1.heap.size w1 w2 := hbW.trans (hb2.mono hzW)
    clear ho2 hb2 HO c1 hbW
    cases hf : fieldsOf 35 x with
    | nil =>
      have HR2 := Lib.hid (T1.out hf)
      clear T1 T2 T3 T4 hf
      go_wp2_with fail
      go_roundg (ls.length - (k + 1))
      case measure => omega
      case rel => exact ⟨k + 1, qs, rfl, by omega, by go_num, hq8, HO2, HR2, hzW2, hbW2⟩
    | cons f fr =>
    replace T2 := Lib.hid (fun h8 => T2.out (by rw [hf]; simp) h8)
    replace T3 := Lib.hid (fun h8 he => T3.out (by rw [hf]; simp) h8 he)
    replace T4 := Lib.hid (fun h8 he => T4.out (by rw [hf]; simp) h8 he)
    have hfl : (((f :: fr).length : Int) == 0) = false := by simp; omega
    clear T1 hf
    by_cases h8 : qs.length = 8
    · have E2 := Lib.hid (T2.out h8)
      have d8 : ((qs.length : Int) == 8) = true := by rw [h8]; rfl
      clear T2 T3 T4
      go_wp2_with fail
      go_ret3
      exact allPost E2.out (by omega) (World.ownsRow_nil _ _ _ _) (B1.out.trans (hbW2.mono B1.out.size))
    have d8 : ((qs.length : Int) == 8) = false := by simp; omega
    go_wp2_with fail
    have B2 := Lib.hid (B1.out.trans (hbW2.mono B1.out.size))
    refine (rqparse_any (str x) _ (HE.out.up B2.out)).mono ?_
    rintro e w3 ⟨rfl, hb3⟩
    rw [bytes_str]
    have HO3 := Lib.hid (own_below HO2.out hb3)
    have Q3 := Lib.hid (Zbox w3)
    have hzW3 : w1.heap.size ≤ w3.heap.size := Nat.le_trans hzW2 hb3.size
    have hbW3 : Below w1.heap.size w1 w3 := hbW2.trans (hb3.mono hzW2)
    clear hb3 c2 HO2 T2
    by_cases hp : parseE x = 0
    case neg =>
      have hn : (parseE x != 0) = true := by simpa using hp
      have E2 := Lib.hid (T3.out h8 hp)
      clear T3 T4 hp
      go_wp2_with (first | (refine wpList_storeQ (q' := parseQ x) rfl _ _ rfl rfl rfl Q3.out ?_; intro w4 hy1 hy2))
      go_ret3
      exact allPost E2.out (by omega) (World.ownsRow_nil _ _ _ _) (read_keep (B1.out.trans (hbW3.mono B1.out.size)) hy2)
    have HR2 := Lib.hid (T4.out h8 hp)
    rw [hp]
    clear T3 T4 hp
    go_wp2_with (first | (refine wpList_storeQ (q' := parseQ x) rfl _ _ rfl rfl rfl Q3.out ?_; intro w4 hy1 hy2; have HO4 := (HO3.out.alloc _).kept hy2 (other_own HO3.out); have hzW4 := Nat.le_trans hzW3 (Nat.le_trans (by simp) hy2.size); have hbW4 := read_up hbW3 hzW3 hy2) | (refine wpList_loadQ rfl _ rfl rfl hy1 ?_) | (refine wpList_buildQ rfl _ rfl rfl ?_) | (at_builtin; refine wpList_append1 _ rfl _ _ 46 rfl w1.heap.size 30 i0 _ 20 200 Tryd.underlying46 Hi0.out Hz0.out Hz1.out Hz2.out rfl (by decide) _ qs.length (QCs qs) rfl HO4 (QC (parseQ x)) rfl rfl (QC_ones _) (by omega) (by decide) hzW4 ?_; intro v5 w5 ho5 hb5))
    go_roundg (ls.length - (k + 1))
    case measure => omega
    case rel => exact ⟨k + 1, qs ++ [parseQ x], rfl, by omega, by go_num, by simp; omega, Lib.hid (by rw [QCs_snoc]; simpa using ho5), HR2, Nat.le_trans hzW4 hb5.size, hbW4.trans hb5⟩
end Go.Proofs.YtnhemjdmleilcaaDoor
