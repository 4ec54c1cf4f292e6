/- The partner of the partner: plain Lean; comparisons and constructions of packets and queries. Condition: addresses are numbers below 2^32. -/
import Derived.Test.YtnhemjdmleilcaaDoorQryPb
namespace Go.Proofs.YtnhemjdmleilcaaDoor
open Go.RowKit

theorem sz_pow (n : Int) : ∃ k, k ≤ 32 ∧ sz n = 2 ^ k := ⟨32 - clampN n, by omega, rfl⟩
theorem or_add {n : Int} {a r : Nat} (ha : a % sz n = 0) (hr : r < sz n) : a ||| r = a + r := by
  obtain ⟨k, _, hk⟩ := sz_pow n
  rw [hk] at ha hr
  obtain ⟨m, rfl⟩ := Nat.dvd_of_mod_eq_zero ha
  exact (Nat.two_pow_add_eq_or_of_lt hr m).symm
theorem or_div {n : Int} {a r : Nat} (ha : a % sz n = 0) (hr : r < sz n) : (a ||| r) / sz n * sz n = a ∧ (a ||| r) % sz n = r := by
  rw [or_add ha hr]
  have hp := sz_pos n
  obtain ⟨m, rfl⟩ := Nat.dvd_of_mod_eq_zero ha
  constructor
  · rw [Nat.mul_add_div hp, Nat.div_eq_of_lt hr, Nat.add_zero, Nat.mul_comm]
  · rw [Nat.mul_add_mod, Nat.mod_eq_of_lt hr]
/-- A query that compares two prefixes of one length. -/
def eqQ (a b : Nat) (n : Nat) (x : Mt) : Qr := ⟨6, [97], [], [], [], [], a, n, b, n, x.sa, x.sl, x.da, x.dl, x.proto, x.slo, x.shi, x.dlo, x.dhi, 0⟩
theorem net_valid (a : Nat) {n : Nat} (h : n ≤ 32) : (a / sz n * sz n) % sz (n : Int) = 0 ∧ validP (a / sz n * sz n) n = true := by
  have e : (a / sz n * sz n) % sz (n : Int) = 0 := Nat.mul_mod_left _ _
  refine ⟨e, ?_⟩
  unfold validP
  simp [e]
  omega
theorem eqQ_valid {a b n : Nat} {x : Mt} (ha : validP a n = true) (hb : validP b n = true) (hx : x.ok = true) : validE (eqQ a b n x) = 0 := by
  unfold validE eqQ
  have hm : matchB x.sa x.sl x.da x.dl x.proto x.slo x.shi x.dlo x.dhi = true := hx
  have h1 : nameB [97] = true := by decide
  simp [aimedB, optB, ha, hb, hm, h1]
theorem eqQ_fit {a b n : Nat} {x : Mt} (ha : a < 4294967296) (hb : b < 4294967296) (hx : x.fit) : (eqQ a b n x).fit := ⟨ha, hb, hx.1, hx.2⟩
theorem eqQ_mt (a b n : Nat) (x : Mt) : mtOf (eqQ a b n x) = x := rfl
theorem part_same {a b n : Nat} {x : Mt} {p : Pk} (hv : validE (eqQ a b n x) = 0) (hp : pktB p = true) : rpartO (eqQ a b n x) p = partO (eqQ a b n x) p := by
  unfold rpartO partO
  by_cases h : inB (mtOf (eqQ a b n x)) p = true ∧ contP (eqQ a b n x).la (eqQ a b n x).ll p.dst = true
  · rw [if_pos ⟨rfl, h⟩, if_pos ⟨rfl, hv, hp, h⟩]; rfl
  · rw [if_neg (fun h' => h h'.2), if_neg (fun h' => h h'.2.2.2)]
theorem part_back {a b n : Nat} {x : Mt} {p y : Pk} (ha : a % sz (n : Int) = 0) (hb : b % sz (n : Int) = 0) (hv : validE (eqQ b a n x) = 0) (hp : pktB p = true) (h : partO (eqQ a b n x) p = some y) (hy : inB x y = true) :
    partO (eqQ b a n x) y = some p ∧ contP b n y.dst = true ∧ y.dst = (b ||| p.dst % sz (n : Int)) := by
  unfold partO at h
  split at h
  · next hc =>
    injection h with h
    have hr : p.dst % sz (n : Int) < sz n := Nat.mod_lt _ (sz_pos _)
    have hd : y.dst = (b ||| p.dst % sz (n : Int)) := by rw [← h]; rfl
    obtain ⟨o1, o2⟩ := or_div hb hr
    have hcont : contP b n y.dst = true := by unfold contP; rw [hd, o1]; simp
    have hin : a = p.dst / sz (n : Int) * sz n := by
      have := hc.2.2.2.2
      unfold contP at this
      exact (of_decide_eq_true this).symm
    refine ⟨?_, hcont, hd⟩
    have hpy : pktB y = true := by rw [← h]; exact hp
    unfold partO
    rw [if_pos ⟨rfl, hv, hpy, hy, hcont⟩]
    have e : ((eqQ b a n x).ra ||| y.dst % sz (eqQ b a n x).ll) = p.dst := by
      show (a ||| y.dst % sz (n : Int)) = p.dst
      rw [hd, o2, or_add ha hr, hin, Nat.mul_comm]
      exact Nat.div_add_mod _ _
    rw [e, ← h]
    rfl
  · cases h
theorem part_fit {a b n : Nat} {x : Mt} {p y : Pk} (hp : p.fit) (hb : b < 4294967296) (h : partO (eqQ a b n x) p = some y) : y.fit := by
  unfold partO at h
  split at h
  · injection h with h
    rw [← h]
    refine ⟨hp.1, ?_⟩
    have h1 : p.dst % sz (eqQ a b n x).ll < 2 ^ 32 := Nat.lt_of_le_of_lt (Nat.mod_le _ _) (by simpa using hp.2)
    have := Nat.or_lt_two_pow (x := b) (y := p.dst % sz (eqQ a b n x).ll) (n := 32) (by simpa using hb) h1
    show (b ||| p.dst % sz (eqQ a b n x).ll) < 4294967296
    simpa using this
  · cases h

theorem Tryd.pktStood : Tryd.prog.stoodInHeld 51 = false := by kernel_rfl
theorem Tryd.pktGuard : Tryd.prog.eqGuardType Tryd.prog.depth 51 = false := by kernel_rfl
theorem pkt_neq (p : Pk) (w : World) : (binOp .neq 51 (.agg (KC p)) (.agg (KC p))).run Tryd.prog w = .ok (.bool false) w := by
  have hp := Tryd.pktStood
  unfold KC
  simp [go_sem, hp]
theorem pkt_eql (p : Pk) (w : World) : (binOp .eql 51 (.agg (KC p)) (.agg (KC p))).run Tryd.prog w = .ok (.bool true) w := by
  have hp := Tryd.pktStood
  unfold KC
  simp [go_sem, hp]
theorem wpList_neqK {ops : Array Oper} {rest : List Oper} {o : Oper} {a : Act} {w : World} {Q : Exit → Act → World → Prop} (hgd : o.guard = none) (x y : Operand) (ho : o.op = .binOp .neq 51 x y 51)
    {p : Pk} (hx : a.eval x = .agg (KC p)) (hy : a.eval y = .agg (KC p)) (h : wpList Tryd.prog ops Q rest (a.put o.dst (.bool false)) w) : wpList Tryd.prog ops Q (o :: rest) a w := by
  refine Great.wpList_readTo hgd _ rfl _ ?_ h
  have hb := pkt_neq p w
  have hg : (eqGuard .neq 51 x y (.agg (KC p)) (.agg (KC p))).run Tryd.prog w = .ok () w := by
    have := Tryd.pktGuard
    simp [eqGuard, this]
  unfold execOp
  simp only [ho, hx, hy, Sem.run_bind, hg, hb, Sem.run_pure, Result.andThen_ok]
theorem wpList_eqK {ops : Array Oper} {rest : List Oper} {o : Oper} {a : Act} {w : World} {Q : Exit → Act → World → Prop} (hgd : o.guard = none) (x y : Operand) (ho : o.op = .binOp .eql 51 x y 51)
    {p : Pk} (hx : a.eval x = .agg (KC p)) (hy : a.eval y = .agg (KC p)) (h : wpList Tryd.prog ops Q rest (a.put o.dst (.bool true)) w) : wpList Tryd.prog ops Q (o :: rest) a w := by
  refine Great.wpList_readTo hgd _ rfl _ ?_ h
  have hb := pkt_eql p w
  have hg : (eqGuard .eql 51 x y (.agg (KC p)) (.agg (KC p))).run Tryd.prog w = .ok () w := by
    have := Tryd.pktGuard
    simp [eqGuard, this]
  unfold execOp
  simp only [ho, hx, hy, Sem.run_bind, hg, hb, Sem.run_pure, Result.andThen_ok]
theorem build_eqQ (a b n : Nat) (x : Mt) (w : World) : (Instr.build 30 #[(0, .int .i64 6), (1, .string ⟨#[97]⟩), (6, .agg #[.int .u32 (a : Int), .int .i64 (n : Int)]), (7, .agg #[.int .u32 (b : Int), .int .i64 (n : Int)]), (8, .agg x.C)]).run Tryd.prog w = .ok (QV (eqQ a b n x)) w := by kernel_rfl
end Go.Proofs.YtnhemjdmleilcaaDoor
