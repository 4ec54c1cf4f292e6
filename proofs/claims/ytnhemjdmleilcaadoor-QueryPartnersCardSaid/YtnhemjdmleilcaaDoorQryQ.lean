/- The law QueryTexts. Condition: Go's own tables and the words lie below the world's blocks (EnvB). -/
import Derived.Test.YtnhemjdmleilcaaDoorQryO
import Derived.Test.YtnhemjdmleilcaaDoorQryKb
namespace Go.Proofs.YtnhemjdmleilcaaDoor
open Go.RowKit

theorem Tryd.qryStood : Tryd.prog.stoodInHeld 30 = false := by kernel_rfl
theorem Tryd.qryGuard : Tryd.prog.eqGuardType Tryd.prog.depth 30 = false := by kernel_rfl
theorem qry_eql (q : Qr) (w : World) : (binOp .eql 30 (QV q) (QV q)).run Tryd.prog w = .ok (.bool true) w := by
  have hp := Tryd.qryStood
  unfold QV strV
  simp [go_sem, hp]
/-- A query is equal to itself: the operation. -/
theorem wpList_eqQ {ops : Array Oper} {rest : List Oper} {o : Oper} {a : Act} {w : World} {Q : Exit → Act → World → Prop} (hgd : o.guard = none) (x y : Operand) (ho : o.op = .binOp .eql 30 x y 30)
    {q : Qr} (hx : a.eval x = QV q) (hy : a.eval y = QV q) (h : wpList Tryd.prog ops Q rest (a.put o.dst (.bool true)) w) : wpList Tryd.prog ops Q (o :: rest) a w := by
  refine Great.wpList_readTo hgd _ rfl _ ?_ h
  have hb := qry_eql q w
  have hg : (eqGuard .eql 30 x y (QV q) (QV q)).run Tryd.prog w = .ok () w := by
    have := Tryd.qryGuard
    simp [eqGuard, QV, this]
  unfold execOp
  simp only [ho, hx, hy, Sem.run_bind, hg, hb, Sem.run_pure, Result.andThen_ok]
/-- A query, just read, in its block: what is kept. -/
theorem read_keep {w0 w w' : World} {o : Obj} (hb : Below w0.heap.size w0 w) (hg : (w.alloc o).grownBy w' (some w.heap.size)) : Below w0.heap.size w0 w' :=
  hb.trans ((((Below.refl w.heap.size w).alloc (Nat.le_refl _) _).trans (below_of_grown hg (Nat.le_refl _) (by simp))).mono hb.size)
theorem other_keep {w w' : World} {b : Nat} {q : Qr} {o : Obj} (h : HasQ b q w) (hg : (w.alloc o).grownBy w' (some w.heap.size)) : HasQ b q w' :=
  (h.below ((Below.refl w.heap.size w).alloc (Nat.le_refl _) o) (blk_lt h)).grown hg (fun e => by injection e with e; have := blk_lt h; omega)
set_option maxRecDepth 100000 in
set_option maxHeartbeats 1000000 in
theorem queryTexts_walk (s : ByteArray) (w : World) (he : EnvB w.heap.size w) : Calls Tryd.prog 4 #[.string s] w fun e w' => e = .returned (.bool true) ∧ Below w.heap.size w w' := by
  have HA := Lib.hid (awake_any w he)
  have HE := Lib.hid he
  clear he
  go_enter Tryd.func4, Tryd.ntmps4
  go_wp2_with fail
  refine HA.out.mono ?_
  rintro e w1 ⟨rfl, hb⟩
  have B1 := Lib.hid hb
  clear hb HA
  by_cases h1 : 2000 < s.size
  · by_cases h2 : s.size ≤ 65536
    · go_wp2_with fail
      go_ret
      exact ⟨rfl, B1.out⟩
    · go_wp2_with fail
      refine (qparse_any s w1 (HE.out.up B1.out)).mono ?_
      rintro e w2 ⟨rfl, hb⟩
      have B2 := Lib.hid (B1.out.trans (hb.mono B1.out.size))
      have Q2 := Lib.hid (Zbox w2)
      clear hb
      go_wp2_with (first | (refine wpList_storeQ (q' := parseQ (bytes s)) rfl _ _ rfl rfl rfl Q2.out ?_; intro w3 hz1 hz2))
      have B3 := Lib.hid (read_keep B2.out hz2)
      refine (rqparse_any s w3 (HE.out.up B3.out)).mono ?_
      rintro e w4 ⟨rfl, hb⟩
      have B4 := Lib.hid (B3.out.trans (hb.mono B3.out.size))
      have Q3 := Lib.hid (hz1.below hb (blk_lt hz1))
      have Q4 := Lib.hid (Zbox w4)
      clear hb hz1 hz2
      go_wp2_with (first | (refine wpList_storeQ (q' := parseQ (bytes s)) rfl _ _ rfl rfl rfl Q4.out ?_; intro w5 hy1 hy2; have Q5 := other_keep Q3.out hy2) | (refine wpList_loadQ rfl _ rfl rfl Q5 ?_) | (refine wpList_loadQ rfl _ rfl rfl hy1 ?_) | (refine wpList_eqQ (q := parseQ (bytes s)) rfl _ _ rfl rfl rfl ?_))
      go_ret
      exact ⟨rfl, read_keep B4.out hy2⟩
  · go_wp2_with fail
    refine (qparse_any s w1 (HE.out.up B1.out)).mono ?_
    rintro e w2 ⟨rfl, hb⟩
    have B2 := Lib.hid (B1.out.trans (hb.mono B1.out.size))
    have Q2 := Lib.hid (Zbox w2)
    clear hb
    go_wp2_with (first | (refine wpList_storeQ (q' := parseQ (bytes s)) rfl _ _ rfl rfl rfl Q2.out ?_; intro w3 hz1 hz2))
    have B3 := Lib.hid (read_keep B2.out hz2)
    refine (rqparse_any s w3 (HE.out.up B3.out)).mono ?_
    rintro e w4 ⟨rfl, hb⟩
    have B4 := Lib.hid (B3.out.trans (hb.mono B3.out.size))
    have Q3 := Lib.hid (hz1.below hb (blk_lt hz1))
    have Q4 := Lib.hid (Zbox w4)
    clear hb hz1 hz2
    go_wp2_with (first | (refine wpList_storeQ (q' := parseQ (bytes s)) rfl _ _ rfl rfl rfl Q4.out ?_; intro w5 hy1 hy2; have Q5 := other_keep Q3.out hy2) | (refine wpList_loadQ rfl _ rfl rfl Q5 ?_) | (refine wpList_loadQ rfl _ rfl rfl hy1 ?_) | (refine wpList_eqQ (q := parseQ (bytes s)) rfl _ _ rfl rfl rfl ?_))
    go_ret
    exact ⟨rfl, read_keep B4.out hy2⟩
end Go.Proofs.YtnhemjdmleilcaaDoor
