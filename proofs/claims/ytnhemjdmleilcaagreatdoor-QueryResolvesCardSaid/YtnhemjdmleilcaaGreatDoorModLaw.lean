/- The law QueryResolves. Conditions: the routers lie in memory; Go's own tables and the words lie below the world's blocks (EnvB). -/
import Derived.Test.YtnhemjdmleilcaaGreatDoorModPl
import Derived.Test.YtnhemjdmleilcaaGreatDoorModFt
import Derived.Test.YtnhemjdmleilcaaGreatDoorQryO
import Derived.Test.YtnhemjdmleilcaaGreatDoorModArgs
namespace Go.Proofs.YtnhemjdmleilcaaGreatDoor
open Go.RowKit

theorem Tryz.tgGuard : Tryz.prog.eqGuardType Tryz.prog.depth 42 = false := by kernel_rfl
theorem Tryz.tgStood : Tryz.prog.stoodInHeld 42 = false := by kernel_rfl
theorem Tryz.enStood : Tryz.prog.stoodInHeld 40 = false := by kernel_rfl
theorem tg_eql (a b c d e : Int) (w : World) : (binOp .eql 42 (.agg (TC a b c d e)) (.agg (TC a b c d e))).run Tryz.prog w = .ok (.bool true) w := by
  have h1 := Tryz.tgStood
  have h2 := Tryz.enStood
  unfold TC
  simp [go_sem, h1, h2]
/-- Along the law's walk: the network's block, the query's. -/
structure RW (v : Value) (q : Qr) (w0 w : World) : Prop where
  h : HasC 24 w0.heap.size #[v] w
  q : HasQ (w0.heap.size + 1) q w
  b : Below w0.heap.size w0 w
theorem RW.keep {v : Value} {q : Qr} {w0 w w' : World} (h : RW v q w0 w) (hb : Below w.heap.size w w') : RW v q w0 w' := ⟨h.h.keep hb, h.q.below hb (blk_lt h.q), h.b.trans (hb.mono h.b.size)⟩
theorem RW.start (v : Value) (q : Qr) (w : World) : RW v q w ((w.alloc (.cells #[v] 24)).alloc (.cells (QC q) 33)) := by
  have z : HasQ _ q _ := heap_alloc_new (w.alloc (.cells #[v] 24)) (.cells (QC q) 33)
  rw [show (w.alloc (.cells #[v] 24)).heap.size = w.heap.size + 1 from by simp] at z
  exact ⟨(HasC.new w _ _).keep ((Below.refl _ _).alloc (Nat.le_refl _) _), z, ((Below.refl _ _).alloc (Nat.le_refl _) _).alloc (by simp) _⟩
theorem RW.next {v : Value} {q q' : Qr} {w0 w w' : World} (h : RW v q w0 w) (hz : HasQ (w0.heap.size + 1) q' w') (hg : w.grownBy w' (some (w0.heap.size + 1))) : RW v q' w0 w' :=
  ⟨h.h.grown hg (by simp), hz, h.b.trans (below_of_grown hg (Nat.le_succ _) h.b.size)⟩
theorem lit_lt {a : Int} (h : (Lit.int .i64 a).wf = true) : a < 9223372036854775808 := by
  have h2 : -9223372036854775808 ≤ a ∧ a ≤ 9223372036854775807 := by simpa [Lit.wf, IntKind.min, IntKind.max, IntKind.signed, IntKind.bits] using h
  omega
set_option maxRecDepth 100000 in
set_option maxHeartbeats 4000000 in
theorem queryResolves_walk (v : Value) (rs : List Rt) (q : Qr) (f t u : Int) (w : World) (he : EnvB w.heap.size w) (hn : NetAt w w.heap.size v rs) (hq : q.fit) (hf : (Lit.int .i64 f).wf = true) (ht : (Lit.int .i64 t).wf = true) (hu : (Lit.int .i64 u).wf = true) :
    Calls Tryz.prog 3 #[.agg #[v], QV q, .int .i64 f, .int .i64 t, .int .i64 u] w fun e w' => e = .returned (.bool true) ∧ Below w.heap.size w w' := by
  have H0 := Lib.hid (RW.start v q w)
  have HN := Lib.hid hn
  have HQ := Lib.hid hq
  have HA := Lib.hid (fun w' (h : RW v q w w') => awake_any w' (he.up h.b))
  have HF := Lib.hid (⟨lit_lt hf, lit_lt ht, lit_lt hu⟩ : f < 9223372036854775808 ∧ t < 9223372036854775808 ∧ u < 9223372036854775808)
  obtain ⟨A, c, hv, hle, -⟩ := hn.h
  have HL : Hid (∀ w', RW v q w w' → w'.cell? ⟨w.heap.size, 0, none⟩ = some (.slice A rs.length c)) := Lib.hid (fun w' h => by rw [← hv]; exact h.h.cell 0)
  clear hn hq he hf ht hu hv
  rw [QV_eq]
  go_enter Tryz.func3, Tryz.ntmps3
  go_upto_region 1 with fail
  generalize hwy : (w.alloc (.cells #[v] 24)).alloc (.cells (QC q) 33) = wy at H0 ⊢
  clear hwy
  go_wp2_with fail
  refine (HA.out _ H0.out).mono ?_
  rintro e w1 ⟨rfl, hb⟩
  have H1 := Lib.hid (H0.out.keep hb)
  clear hb H0 HA
  go_wp2_with (first | (refine wpList_loadQ rfl _ rfl rfl H1.out.q ?_))
  with_reducible refine (long_any q _).mono ?_
  rintro e w2 ⟨rfl, hb⟩
  have H2 := Lib.hid (H1.out.keep hb)
  clear hb H1
  cases hL : longB q with
  | true =>
    go_wp2_with fail
    go_ret
    exact ⟨rfl, H2.out.b⟩
  | false =>
  clear hL
  have c0 := HL.out _ H2.out
  by_cases h8 : 8 < rs.length
  · have d8 : decide ((8 : Int) < rs.length) = true := by simp; omega
    go_wp2_with fail
    go_ret
    exact ⟨rfl, H2.out.b⟩
  have d8 : decide ((8 : Int) < rs.length) = false := by simp; omega
  go_wp2_with (first | (refine wpList_unguard (by rfl) (wpList_loadRow rfl 24 _ rfl rfl H2.out.h.range Tryz.rowNw Tryz.sizeNw ?_)))
  clear c0 d8
  with_reducible refine (check_any rs v w2 w.heap.size (HN.out.below H2.out.b) H2.out.b.size).mono ?_
  rintro e w3 ⟨rfl, hb⟩
  have H3 := Lib.hid (H2.out.keep hb)
  clear hb H2
  by_cases hc : checkE rs = 0
  case neg =>
    generalize checkE rs = ce at *
    have dn : (ce != 0) = true := by simpa using hc
    go_wp2_with fail
    go_ret
    exact ⟨rfl, H3.out.b⟩
  have HC := Lib.hid hc
  rw [hc]
  clear hc
  go_wp2_with (first | (refine wpList_loadRow rfl 24 _ rfl rfl H3.out.h.range Tryz.rowNw Tryz.sizeNw ?_) | (refine wpList_loadQ rfl _ rfl rfl H3.out.q ?_))
  with_reducible refine (fit_any rs v q f t u w3 w.heap.size (HN.out.below H3.out.b) H3.out.b.size HQ.out HF.out.1 HF.out.2.1 HF.out.2.2 (fun r hr => (ifsE_zero (check_ifs HC.out r hr)).1)).mono ?_
  rintro e w4 ⟨⟨q2, hq2, rfl⟩, hb⟩
  have H4 := Lib.hid (H3.out.keep hb)
  have HQ2 := Lib.hid hq2
  clear hb H3 hq2
  go_upto_region 6 with (first | (refine wpList_storeQ (q' := q2) rfl _ _ rfl rfl rfl H4.out.q ?_; intro w5 hz1 hz2))
  have H5 := Lib.hid (H4.out.next hz1 hz2)
  clear hz1 hz2 H4
  go_wp2_with (first | (refine wpList_loadRow rfl 24 _ rfl rfl H5.out.h.range Tryz.rowNw Tryz.sizeNw ?_) | (refine wpList_loadQ rfl _ rfl rfl H5.out.q ?_))
  have PE := Lib.hid (res_eq HC.out q2)
  have P1 := Lib.hid (resolve_any rs v q2 w5 w.heap.size (HN.out.below H5.out.b) H5.out.b.size HQ2.out)
  have P2 := Lib.hid (fun w' (h : RW v q2 w w') => rresolve_any rs v q2 w' w.heap.size (HN.out.below h.b) h.b.size HQ2.out)
  rw [← PE.out] at P2
  clear PE
  generalize resV rs q2 = tg at P1 P2
  obtain ⟨a1, a2, a3, a4, a5, a6⟩ := tg
  unfold TgP Tg.V at P1 P2
  dsimp only at P1 P2
  have qt := fun w => tg_eql a1 a2 a3 a4 a5 w
  have tgd := Tryz.tgGuard
  refine P1.out.mono ?_
  rintro e w6 ⟨rfl, hb⟩
  have H6 := Lib.hid (H5.out.keep hb)
  clear hb H5 P1
  go_upto_region 7 with (first | (refine wpList_storeRow rfl 42 _ _ rfl rfl rfl (HasC.new w6 _ _) rfl Tryz.sizeTg (TC_one _ _ _ _ _) ?_; intro w7 hz1 hz2))
  have H7 := Lib.hid (H6.out.keep (new_below hz2))
  have G7 := hz1
  clear hz1 hz2 H6
  generalize w6.heap.size = g1 at G7 ⊢
  replace G7 := Lib.hid G7
  go_wp2_with (first | (refine wpList_loadRow rfl 24 _ rfl rfl H7.out.h.range Tryz.rowNw Tryz.sizeNw ?_) | (refine wpList_loadQ rfl _ rfl rfl H7.out.q ?_))
  refine (P2.out _ H7.out).mono ?_
  rintro e w8 ⟨rfl, hb⟩
  have H8 := Lib.hid (H7.out.keep hb)
  have G8 := Lib.hid (G7.out.keep hb)
  clear hb H7 G7 P2
  go_upto_region 8 with (first | (refine wpList_storeRow rfl 42 _ _ rfl rfl rfl (HasC.new w8 _ _) rfl Tryz.sizeTg (TC_one _ _ _ _ _) ?_; intro w9 hz1 hz2))
  have H9 := Lib.hid (H8.out.keep (new_below hz2))
  have G9 := Lib.hid (G8.out.keep (new_below hz2))
  have K9 := hz1
  clear hz1 hz2 H8 G8
  generalize w8.heap.size = g2 at K9 ⊢
  replace K9 := Lib.hid K9
  go_wp2_with (first | (refine wpList_loadRow (g := g1) rfl 42 _ rfl rfl G9.out.range Tryz.rowTg Tryz.sizeTg ?_) | (refine wpList_loadRow (g := g2) rfl 42 _ rfl rfl K9.out.range Tryz.rowTg Tryz.sizeTg ?_))
  go_ret
  exact ⟨rfl, H9.out.b⟩
end Go.Proofs.YtnhemjdmleilcaaGreatDoor
