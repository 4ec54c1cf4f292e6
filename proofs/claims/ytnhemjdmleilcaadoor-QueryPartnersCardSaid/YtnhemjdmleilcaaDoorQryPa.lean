/- Packets and matches: the walks of inRange, ValidPacket, In (both packages). Condition: addresses are numbers below 2^32. -/
import Derived.Test.YtnhemjdmleilcaaDoorQryZ
namespace Go.Proofs.YtnhemjdmleilcaaDoor
open Go.RowKit

structure Pk where
  src : Nat
  dst : Nat
  proto : Int
  sp : Int
  dp : Int
structure Mt where
  sa : Nat
  sl : Int
  da : Nat
  dl : Int
  proto : Int
  slo : Int
  shi : Int
  dlo : Int
  dhi : Int
def KC (p : Pk) : Array Value := #[.int .u32 (p.src : Int), .int .u32 (p.dst : Int), .int .i64 p.proto, .int .i64 p.sp, .int .i64 p.dp]
def Pk.zero : Pk := ⟨0, 0, 0, 0, 0⟩
def Pk.fit (p : Pk) : Prop := p.src < 4294967296 ∧ p.dst < 4294967296
def Mt.C (m : Mt) : Array Value := MC m.sa m.sl m.da m.dl m.proto m.slo m.shi m.dlo m.dhi
def Mt.fit (m : Mt) : Prop := m.sa < 4294967296 ∧ m.da < 4294967296
def Mt.ok (m : Mt) : Bool := matchB m.sa m.sl m.da m.dl m.proto m.slo m.shi m.dlo m.dhi
def rngB (lo hi n : Int) : Bool := decide (lo ≤ n) && decide (n ≤ hi)
def pktB (p : Pk) : Bool := decide (0 ≤ p.proto) && decide (p.proto ≤ 255) && rngB 0 65535 p.sp && rngB 0 65535 p.dp
def inB (m : Mt) (p : Pk) : Bool := contP m.sa m.sl p.src && contP m.da m.dl p.dst && (m.proto == -1 || m.proto == p.proto) && decide (m.slo ≤ p.sp) && decide (p.sp ≤ m.shi) && decide (m.dlo ≤ p.dp) && decide (p.dp ≤ m.dhi)

/-- A row of cells as a whole, out of a block: the operation. -/
theorem wpList_loadRow {P : Program} {ops : Array Oper} {rest : List Oper} {o : Oper} {a : Act} {w : World} {Q : Exit → Act → World → Prop} (hgd : o.guard = none) (T : TypeId) (x : Operand) (ho : o.op = .load T x)
    {g f : Nat} {cs : Array Value} (hx : a.eval x = .pointer (some ⟨g, f, none⟩)) (hq : w.rangeAt g f cs.toList) (hr : (P.underlying T).map TypeDesc.isRow = some true) (hs : (P.info? T).map (·.size) = some cs.size)
    (h : wpList P ops Q rest (a.put o.dst (.agg cs)) w) : wpList P ops Q (o :: rest) a w := by
  obtain ⟨d, hu, hd⟩ := row_of hr
  refine wpList_load_mid hgd T x ho g f hx cs.toList d hq hu hd (by simpa using hs) ?_
  simpa using h
theorem range_blk {w : World} {g : Nat} {cs : Array Value} {T : TypeId} (h : w.heap[g]? = some (.cells cs T (0, 0))) : w.rangeAt g 0 cs.toList := fun j v hv => by
  rw [Nat.zero_add, Lib.cell_of_heap h j]
  simpa using hv
theorem Tryd.rowM : (Tryd.prog.underlying 28).map TypeDesc.isRow = some true := by kernel_rfl
theorem Tryd.sizeM : (Tryd.prog.info? 28).map (·.size) = some 9 := by kernel_rfl
theorem Tryd.rowK : (Tryd.prog.underlying 51).map TypeDesc.isRow = some true := by kernel_rfl
theorem Tryd.sizeK : (Tryd.prog.info? 51).map (·.size) = some 5 := by kernel_rfl

theorem inRange_any (lo hi n : Int) (w : World) : Calls Tryd.prog 61 #[.agg #[.int .i64 lo, .int .i64 hi], .int .i64 n] w fun e w' => e = .returned (.bool (rngB lo hi n)) ∧ Below w.heap.size w w' := by
  have HB := Lib.hid (fun o => (Below.refl w.heap.size w).alloc (Nat.le_refl _) o)
  by_cases h1 : lo ≤ n
  · by_cases h2 : n ≤ hi
    · have E : Hid (true = rngB lo hi n) := Lib.hid (by simp [rngB, h1, h2])
      go_enter Tryd.func61, Tryd.ntmps61
      go_wp2_with fail
      go_ret
      exact ⟨ret_bool (by rw [← E.out]; try simp [h2]), HB.out _⟩
    · have E : Hid (false = rngB lo hi n) := Lib.hid (by simp [rngB, h2])
      go_enter Tryd.func61, Tryd.ntmps61
      go_wp2_with fail
      go_ret
      exact ⟨ret_bool (by rw [← E.out]; try (simp; omega)), HB.out _⟩
  · have E : Hid (false = rngB lo hi n) := Lib.hid (by simp [rngB, h1])
    go_enter Tryd.func61, Tryd.ntmps61
    go_wp2_with fail
    go_ret
    exact ⟨ret_bool E.out, HB.out _⟩
/-- Two rows of cells, laid behind one another, and all that was there before. -/
def Two (T U : TypeId) (cs ds : Array Value) (w0 w : World) : Prop := w.heap[w0.heap.size]? = some (.cells cs T (0, 0)) ∧ w.heap[w0.heap.size + 1]? = some (.cells ds U (0, 0)) ∧ Below w0.heap.size w0 w
theorem Two.keep {T U : TypeId} {cs ds : Array Value} {w0 w w' : World} (h : Two T U cs ds w0 w) (hb : Below w.heap.size w w') : Two T U cs ds w0 w' :=
  ⟨(hb.block _ (blk_lt h.1)).trans h.1, (hb.block _ (blk_lt h.2.1)).trans h.2.1, h.2.2.trans (hb.mono h.2.2.size)⟩
theorem Two.start (T U : TypeId) (cs ds : Array Value) (w : World) : Two T U cs ds w ((w.alloc (.cells cs T)).alloc (.cells ds U)) := by
  refine ⟨?_, ?_, ((Below.refl _ w).alloc (Nat.le_refl _) _).alloc (by simp) _⟩
  · rw [Below.heap_alloc _ _ _ (by simp)]
    exact heap_alloc_new w _
  · have := heap_alloc_new (w.alloc (.cells cs T)) (.cells ds U)
    simpa using this
set_option maxRecDepth 4000 in
set_option maxHeartbeats 1000000 in
theorem validPacket_any (p : Pk) (w : World) : Calls Tryd.prog 21 #[.agg (KC p)] w fun e w' => e = .returned (.bool (pktB p)) ∧ Below w.heap.size w w' := by
  have H0 := Lib.hid (Two.start 51 26 (KC p) #[.int .i64 0, .int .i64 65535] w)
  have HB := Lib.hid (fun o => (Below.refl w.heap.size w).alloc (Nat.le_refl _) o)
  have P1 := Lib.hid (fun w1 => inRange_any 0 65535 p.sp w1)
  have P2 := Lib.hid (fun w1 => inRange_any 0 65535 p.dp w1)
  unfold KC at *
  by_cases h1 : 0 ≤ p.proto
  case neg =>
    have E : Hid (false = pktB p) := Lib.hid (by simp [pktB, h1])
    go_enter Tryd.func21, Tryd.ntmps21
    go_wp2_with fail
    go_ret
    exact ⟨ret_bool E.out, H0.out.2.2⟩
  by_cases h2 : p.proto ≤ 255
  case neg =>
    have E : Hid (false = pktB p) := Lib.hid (by simp [pktB, h2])
    go_enter Tryd.func21, Tryd.ntmps21
    go_wp2_with fail
    go_ret
    exact ⟨ret_bool (by rw [← E.out]; try (simp; omega)), H0.out.2.2⟩
  have E : Hid (pktB p = (rngB 0 65535 p.sp && rngB 0 65535 p.dp)) := Lib.hid (by simp [pktB, h1, h2])
  go_enter Tryd.func21, Tryd.ntmps21
  go_wp2_with fail
  refine (P1.out _).mono ?_
  rintro e w1 ⟨rfl, hb⟩
  have H1 := Lib.hid (H0.out.keep hb)
  clear hb H0
  cases hs : rngB 0 65535 p.sp with
  | false =>
    go_wp2_with fail
    go_ret
    exact ⟨ret_bool (by rw [E.out, hs]; rfl), H1.out.2.2⟩
  | true =>
  have c0 : w1.cell? ⟨w.heap.size + 1, 0, none⟩ = some (.int .i64 0) := Lib.cell_of_heap H1.out.2.1 0
  have c1 : w1.cell? ⟨w.heap.size + 1, 1, none⟩ = some (.int .i64 65535) := Lib.cell_of_heap H1.out.2.1 1
  have c4 : w1.cell? ⟨w.heap.size, 4, none⟩ = some (.int .i64 p.dp) := Lib.cell_of_heap H1.out.1 4
  go_wp2_with fail
  refine (P2.out _).mono ?_
  rintro e w2 ⟨rfl, hb⟩
  have H2 := Lib.hid (H1.out.keep hb)
  clear hb H1 c0 c1 c4
  go_wp2_with fail
  go_ret
  exact ⟨ret_bool (by rw [E.out, hs]; rfl), H2.out.2.2⟩
set_option maxRecDepth 8000 in
set_option maxHeartbeats 4000000 in
theorem in_any (m : Mt) (p : Pk) (w : World) (hm : m.fit) (hp : p.fit) : Calls Tryd.prog 28 #[.agg m.C, .agg (KC p)] w fun e w' => e = .returned (.bool (m.ok && pktB p && inB m p)) ∧ Below w.heap.size w w' := by
  have H0 := Lib.hid (Two.start 28 51 m.C (KC p) w)
  have P1 := Lib.hid (fun w1 => contains_any m.sa m.sl p.src w1 hp.1)
  have P2 := Lib.hid (fun w1 => contains_any m.da m.dl p.dst w1 hp.2)
  unfold PV at P1 P2
  have PM := Lib.hid (fun w1 => validMatch_any m.sa m.sl m.da m.dl m.proto m.slo m.shi m.dlo m.dhi w1 hm.1 hm.2)
  have PK := Lib.hid (fun w1 => validPacket_any p w1)
  unfold MV at PM
  unfold Mt.C MC KC at *
  clear hm hp
  go_enter Tryd.func28, Tryd.ntmps28
  simp only [List.append_eq, List.cons_append, List.nil_append]
  go_wp2_with fail
  refine (PM.out _).mono ?_
  rintro e w1 ⟨rfl, hb⟩
  have H1 := Lib.hid (H0.out.keep hb)
  clear hb H0
  cases hok : matchB m.sa m.sl m.da m.dl m.proto m.slo m.shi m.dlo m.dhi with
  | false =>
    go_wp2_with fail
    go_ret
    exact ⟨ret_bool (by rw [show m.ok = false from hok]; rfl), H1.out.2.2⟩
  | true =>
  have hok' : m.ok = true := hok
  clear hok
  have k0 : w1.cell? ⟨w.heap.size + 1, 0, none⟩ = some (.int .u32 (p.src : Int)) := Lib.cell_of_heap H1.out.2.1 0
  have k1 : w1.cell? ⟨w.heap.size + 1, 1, none⟩ = some (.int .u32 (p.dst : Int)) := Lib.cell_of_heap H1.out.2.1 1
  have k2 : w1.cell? ⟨w.heap.size + 1, 2, none⟩ = some (.int .i64 p.proto) := Lib.cell_of_heap H1.out.2.1 2
  have k3 : w1.cell? ⟨w.heap.size + 1, 3, none⟩ = some (.int .i64 p.sp) := Lib.cell_of_heap H1.out.2.1 3
  have k4 : w1.cell? ⟨w.heap.size + 1, 4, none⟩ = some (.int .i64 p.dp) := Lib.cell_of_heap H1.out.2.1 4
  go_wp2_with fail
  refine (PK.out _).mono ?_
  rintro e w2 ⟨rfl, hb⟩
  have H2 := Lib.hid (H1.out.keep hb)
  clear hb H1 k0 k1 k2 k3 k4
  cases hpk : pktB p with
  | false =>
    go_wp2_with fail
    go_ret
    exact ⟨ret_bool (by rw [hok', hpk]; rfl), H2.out.2.2⟩
  | true =>
  have EO : Hid ((m.ok && pktB p && inB m p) = inB m p) := Lib.hid (by rw [hok', hpk]; rfl)
  clear hok' hpk
  have m0 : w2.cell? ⟨w.heap.size, 0, none⟩ = some (.int .u32 (m.sa : Int)) := Lib.cell_of_heap H2.out.1 0
  have m1 : w2.cell? ⟨w.heap.size, 1, none⟩ = some (.int .i64 m.sl) := Lib.cell_of_heap H2.out.1 1
  have k0 : w2.cell? ⟨w.heap.size + 1, 0, none⟩ = some (.int .u32 (p.src : Int)) := Lib.cell_of_heap H2.out.2.1 0
  go_wp2_with fail
  refine (P1.out _).mono ?_
  rintro e w3 ⟨rfl, hb⟩
  have H3 := Lib.hid (H2.out.keep hb)
  clear hb H2 m0 m1 k0
  cases h1 : contP m.sa m.sl p.src with
  | false =>
    go_wp2_with fail
    go_ret
    exact ⟨ret_bool (by rw [EO.out]; simp [inB, h1]), H3.out.2.2⟩
  | true =>
  have m2 : w3.cell? ⟨w.heap.size, 2, none⟩ = some (.int .u32 (m.da : Int)) := Lib.cell_of_heap H3.out.1 2
  have m3 : w3.cell? ⟨w.heap.size, 3, none⟩ = some (.int .i64 m.dl) := Lib.cell_of_heap H3.out.1 3
  have k1 : w3.cell? ⟨w.heap.size + 1, 1, none⟩ = some (.int .u32 (p.dst : Int)) := Lib.cell_of_heap H3.out.2.1 1
  go_wp2_with fail
  refine (P2.out _).mono ?_
  rintro e w4 ⟨rfl, hb⟩
  have H4 := Lib.hid (H3.out.keep hb)
  clear hb H3 m2 m3 k1
  cases h2 : contP m.da m.dl p.dst with
  | false =>
    go_wp2_with fail
    go_ret
    exact ⟨ret_bool (by rw [EO.out]; simp [inB, h2]), H4.out.2.2⟩
  | true =>
  have E : Hid (inB m p = ((m.proto == -1 || m.proto == p.proto) && decide (m.slo ≤ p.sp) && decide (p.sp ≤ m.shi) && decide (m.dlo ≤ p.dp) && decide (p.dp ≤ m.dhi))) := Lib.hid (by simp [inB, h1, h2])
  clear h1 h2
  have m4 : w4.cell? ⟨w.heap.size, 4, none⟩ = some (.int .i64 m.proto) := Lib.cell_of_heap H4.out.1 4
  have m5 : w4.cell? ⟨w.heap.size, 5, none⟩ = some (.int .i64 m.slo) := Lib.cell_of_heap H4.out.1 5
  have m6 : w4.cell? ⟨w.heap.size, 6, none⟩ = some (.int .i64 m.shi) := Lib.cell_of_heap H4.out.1 6
  have m7 : w4.cell? ⟨w.heap.size, 7, none⟩ = some (.int .i64 m.dlo) := Lib.cell_of_heap H4.out.1 7
  have m8 : w4.cell? ⟨w.heap.size, 8, none⟩ = some (.int .i64 m.dhi) := Lib.cell_of_heap H4.out.1 8
  have k2 : w4.cell? ⟨w.heap.size + 1, 2, none⟩ = some (.int .i64 p.proto) := Lib.cell_of_heap H4.out.2.1 2
  have k3 : w4.cell? ⟨w.heap.size + 1, 3, none⟩ = some (.int .i64 p.sp) := Lib.cell_of_heap H4.out.2.1 3
  have k4 : w4.cell? ⟨w.heap.size + 1, 4, none⟩ = some (.int .i64 p.dp) := Lib.cell_of_heap H4.out.2.1 4
  by_cases h3 : m.proto = -1 ∨ m.proto = p.proto
  case neg =>
    have d1 : (m.proto == -1) = false := by simp; omega
    have d2 : (m.proto == p.proto) = false := by simp; omega
    go_wp2_with fail
    go_ret
    exact ⟨ret_bool (by rw [EO.out]; rw [E.out, d1, d2]; rfl), H4.out.2.2⟩
  have E2 : Hid (inB m p = (decide (m.slo ≤ p.sp) && decide (p.sp ≤ m.shi) && decide (m.dlo ≤ p.dp) && decide (p.dp ≤ m.dhi))) := Lib.hid (by rw [E.out]; rcases h3 with h3 | h3 <;> simp [h3])
  clear E
  have d : ((m.proto == -1) = true) ∨ ((m.proto == -1) = false ∧ (m.proto == p.proto) = true) := by
    by_cases h : m.proto = -1
    · left; simp [h]
    · right; exact ⟨by simpa using h, by rcases h3 with h3 | h3; exact absurd h3 h; simp [h3]⟩
  clear h3
  by_cases h4 : m.slo ≤ p.sp
  case neg =>
    rcases d with d | ⟨d, d'⟩
    all_goals
      go_wp2_with fail
      go_ret
      exact ⟨ret_bool (by rw [EO.out]; rw [E2.out, show decide (m.slo ≤ p.sp) = false from decide_eq_false (by omega)]; simp), H4.out.2.2⟩
  by_cases h5 : p.sp ≤ m.shi
  case neg =>
    rcases d with d | ⟨d, d'⟩
    all_goals
      go_wp2_with fail
      go_ret
      exact ⟨ret_bool (by rw [EO.out]; rw [E2.out, show decide (p.sp ≤ m.shi) = false from decide_eq_false (by omega)]; simp), H4.out.2.2⟩
  by_cases h6 : m.dlo ≤ p.dp
  case neg =>
    rcases d with d | ⟨d, d'⟩
    all_goals
      go_wp2_with fail
      go_ret
      exact ⟨ret_bool (by rw [EO.out]; rw [E2.out, show decide (m.dlo ≤ p.dp) = false from decide_eq_false (by omega)]; simp), H4.out.2.2⟩
  have E3 : Hid (inB m p = decide (p.dp ≤ m.dhi)) := Lib.hid (by rw [E2.out]; simp [h4, h5, h6])
  rcases d with d | ⟨d, d'⟩
  all_goals
    go_wp2_with fail
    all_goals (go_ret; exact ⟨ret_bool (by rw [EO.out]; rw [E3.out]; first | done | (simp; done) | (simp; omega)), H4.out.2.2⟩)
set_option maxRecDepth 8000 in
set_option maxHeartbeats 4000000 in
theorem rin_any (m : Mt) (p : Pk) (w : World) (hp : p.fit) : Calls Tryd.prog 64 #[.agg m.C, .agg (KC p)] w fun e w' => e = .returned (.bool (inB m p)) ∧ Below w.heap.size w w' := by
  have H0 := Lib.hid (Two.start 28 51 m.C (KC p) w)
  have P1 := Lib.hid (fun w1 => rcontains_any m.sa m.sl p.src w1 hp.1)
  have P2 := Lib.hid (fun w1 => rcontains_any m.da m.dl p.dst w1 hp.2)
  unfold PV at P1 P2
  clear hp
  unfold Mt.C MC KC at *
  go_enter Tryd.func64, Tryd.ntmps64
  go_wp2_with fail
  refine (P1.out _).mono ?_
  rintro e w1 ⟨rfl, hb⟩
  have H1 := Lib.hid (H0.out.keep hb)
  clear hb H0 
  cases h1 : contP m.sa m.sl p.src with
  | false =>
    go_wp2_with fail
    go_ret
    exact ⟨ret_bool (by simp [inB, h1]), H1.out.2.2⟩
  | true =>
  have m2 : w1.cell? ⟨w.heap.size, 2, none⟩ = some (.int .u32 (m.da : Int)) := Lib.cell_of_heap H1.out.1 2
  have m3 : w1.cell? ⟨w.heap.size, 3, none⟩ = some (.int .i64 m.dl) := Lib.cell_of_heap H1.out.1 3
  have k1 : w1.cell? ⟨w.heap.size + 1, 1, none⟩ = some (.int .u32 (p.dst : Int)) := Lib.cell_of_heap H1.out.2.1 1
  go_wp2_with fail
  refine (P2.out _).mono ?_
  rintro e w2 ⟨rfl, hb⟩
  have H2 := Lib.hid (H1.out.keep hb)
  clear hb H1 m2 m3 k1
  cases h2 : contP m.da m.dl p.dst with
  | false =>
    go_wp2_with fail
    go_ret
    exact ⟨ret_bool (by simp [inB, h2]), H2.out.2.2⟩
  | true =>
  have E : Hid (inB m p = ((m.proto == -1 || m.proto == p.proto) && decide (m.slo ≤ p.sp) && decide (p.sp ≤ m.shi) && decide (m.dlo ≤ p.dp) && decide (p.dp ≤ m.dhi))) := Lib.hid (by simp [inB, h1, h2])
  clear h1 h2
  have m4 : w2.cell? ⟨w.heap.size, 4, none⟩ = some (.int .i64 m.proto) := Lib.cell_of_heap H2.out.1 4
  have m5 : w2.cell? ⟨w.heap.size, 5, none⟩ = some (.int .i64 m.slo) := Lib.cell_of_heap H2.out.1 5
  have m6 : w2.cell? ⟨w.heap.size, 6, none⟩ = some (.int .i64 m.shi) := Lib.cell_of_heap H2.out.1 6
  have m7 : w2.cell? ⟨w.heap.size, 7, none⟩ = some (.int .i64 m.dlo) := Lib.cell_of_heap H2.out.1 7
  have m8 : w2.cell? ⟨w.heap.size, 8, none⟩ = some (.int .i64 m.dhi) := Lib.cell_of_heap H2.out.1 8
  have k2 : w2.cell? ⟨w.heap.size + 1, 2, none⟩ = some (.int .i64 p.proto) := Lib.cell_of_heap H2.out.2.1 2
  have k3 : w2.cell? ⟨w.heap.size + 1, 3, none⟩ = some (.int .i64 p.sp) := Lib.cell_of_heap H2.out.2.1 3
  have k4 : w2.cell? ⟨w.heap.size + 1, 4, none⟩ = some (.int .i64 p.dp) := Lib.cell_of_heap H2.out.2.1 4
  by_cases h3 : m.proto = -1 ∨ m.proto = p.proto
  case neg =>
    have d1 : (m.proto == -1) = false := by simp; omega
    have d2 : (m.proto == p.proto) = false := by simp; omega
    go_wp2_with fail
    go_ret
    exact ⟨ret_bool (by rw [E.out, d1, d2]; rfl), H2.out.2.2⟩
  have E2 : Hid (inB m p = (decide (m.slo ≤ p.sp) && decide (p.sp ≤ m.shi) && decide (m.dlo ≤ p.dp) && decide (p.dp ≤ m.dhi))) := Lib.hid (by rw [E.out]; rcases h3 with h3 | h3 <;> simp [h3])
  clear E
  have d : ((m.proto == -1) = true) ∨ ((m.proto == -1) = false ∧ (m.proto == p.proto) = true) := by
    by_cases h : m.proto = -1
    · left; simp [h]
    · right; exact ⟨by simpa using h, by rcases h3 with h3 | h3; exact absurd h3 h; simp [h3]⟩
  clear h3
  by_cases h4 : m.slo ≤ p.sp
  case neg =>
    rcases d with d | ⟨d, d'⟩
    all_goals
      go_wp2_with fail
      go_ret
      exact ⟨ret_bool (by rw [E2.out, show decide (m.slo ≤ p.sp) = false from decide_eq_false (by omega)]; simp), H2.out.2.2⟩
  by_cases h5 : p.sp ≤ m.shi
  case neg =>
    rcases d with d | ⟨d, d'⟩
    all_goals
      go_wp2_with fail
      go_ret
      exact ⟨ret_bool (by rw [E2.out, show decide (p.sp ≤ m.shi) = false from decide_eq_false (by omega)]; simp), H2.out.2.2⟩
  by_cases h6 : m.dlo ≤ p.dp
  case neg =>
    rcases d with d | ⟨d, d'⟩
    all_goals
      go_wp2_with fail
      go_ret
      exact ⟨ret_bool (by rw [E2.out, show decide (m.dlo ≤ p.dp) = false from decide_eq_false (by omega)]; simp), H2.out.2.2⟩
  have E3 : Hid (inB m p = decide (p.dp ≤ m.dhi)) := Lib.hid (by rw [E2.out]; simp [h4, h5, h6])
  rcases d with d | ⟨d, d'⟩
  all_goals
    go_wp2_with fail
    all_goals (go_ret; exact ⟨ret_bool (by rw [E3.out]; first | done | (simp; done) | (simp; omega)), H2.out.2.2⟩)
end Go.Proofs.YtnhemjdmleilcaaDoor
