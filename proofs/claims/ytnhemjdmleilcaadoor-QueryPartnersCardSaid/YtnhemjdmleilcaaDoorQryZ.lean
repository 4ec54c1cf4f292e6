/- The law QueryFormats. Conditions: addresses are numbers below 2^32; Go's own tables and the words lie below the world's blocks (EnvB). -/
import Derived.Test.YtnhemjdmleilcaaDoorQryY
import Derived.Test.YtnhemjdmleilcaaDoorQryX
import Derived.Test.YtnhemjdmleilcaaDoorQryQ
namespace Go.Proofs.YtnhemjdmleilcaaDoor
open Go.RowKit

/-- An operation whose guard lets it by is as one without a guard. -/
theorem wpList_unguard {P : Program} {ops : Array Oper} {rest : List Oper} {o : Oper} {a : Act} {w : World} {Q : Exit → Act → World → Prop} (hw : Region.wanted o (yielded ops a.tmps) = true)
    (h : wpList P ops Q ({ o with guard := none } :: rest) a w) : wpList P ops Q (o :: rest) a w := by
  unfold wpList at h ⊢
  rw [if_pos hw]
  rw [if_pos (show Region.wanted { o with guard := none } (yielded ops a.tmps) = true from rfl)] at h
  exact h
set_option maxRecDepth 100000 in
set_option maxHeartbeats 1000000 in
theorem queryFormats_walk (q : Qr) (w : World) (he : EnvB w.heap.size w) (hq : q.fit) : Calls Tryd.prog 5 #[QV q] w fun e w' => e = .returned (.bool true) ∧ Below w.heap.size w w' := by
  have H0 : FM q w (w.alloc (.cells (QC q) 30)) := ⟨heap_alloc_new w _, (Below.refl w.heap.size w).alloc (Nat.le_refl _) _⟩
  have HA := Lib.hid (awake_any _ (he.up H0.2))
  have HL := Lib.hid (fun w1 => long_any q w1)
  have HE := Lib.hid he
  have HQ := Lib.hid hq
  have H1 := Lib.hid H0
  clear he hq H0
  rw [QV_eq]
  go_enter Tryd.func5, Tryd.ntmps5
  go_wp2_with fail
  refine HA.out.mono ?_
  rintro e w1 ⟨rfl, hb⟩
  have S1 := Lib.hid (H1.out.keep hb)
  clear hb H1 HA
  generalize QC q = cs
  go_wp2_with (first | (refine wpList_loadQ rfl _ rfl rfl S1.out.1 ?_))
  refine (HL.out _).mono ?_
  rintro e w2 ⟨rfl, hb⟩
  have S2 := Lib.hid (S1.out.keep hb)
  clear hb S1 HL
  cases hL : longB q with
  | true =>
    go_wp2_with fail
    go_ret
    exact ⟨rfl, S2.out.2⟩
  | false =>
  clear hL
  go_wp2_with (first | (refine wpList_loadQ rfl _ rfl rfl S2.out.1 ?_))
  refine (qformat_any q _ HQ.out (HE.out.up S2.out.2)).mono ?_
  rintro e w3 ⟨rfl, hb⟩
  have S3 := Lib.hid (S2.out.keep hb)
  clear hb S2
  unfold strV
  go_wp2_with (first | (refine wpList_loadQ rfl _ rfl rfl S3.out.1 ?_))
  refine (rqformat_any q _ HQ.out).mono ?_
  rintro e w4 ⟨rfl, hb⟩
  have S4 := Lib.hid (S3.out.keep hb)
  clear hb S3
  unfold strV
  go_wp2_with fail
  refine (qparse_any (str (fmtQ q)) _ (HE.out.up S4.out.2)).mono ?_
  rintro e w5 ⟨rfl, hb⟩
  rw [bytes_str]
  have S5 := Lib.hid (S4.out.keep hb)
  have Q5 := Lib.hid (Zbox w5)
  clear hb S4
  by_cases hv : validE q = 0
  case neg =>
    have hn : (validE q != 0) = true := by simpa using hv
    clear hv
    go_wp2_with (first | (refine wpList_storeQ (q' := parseQ (fmtQ q)) rfl _ _ rfl rfl rfl Q5.out ?_; intro w6 hz1 hz2))
    go_ret
    exact ⟨rfl, read_keep S5.out.2 hz2⟩
  obtain ⟨r1, r2⟩ := read_back hv HQ.out
  rw [r1, r2, hv]
  clear r1 r2 hv
  go_wp2_with (first | (refine wpList_storeQ (q' := q) rfl _ _ rfl rfl rfl Q5.out ?_; intro w6 hz1 hz2; have S6 := other_keep S5.out.1 hz2) | (refine wpList_unguard (by rfl) (wpList_loadQ rfl _ rfl rfl hz1 ?_)) | (refine wpList_unguard (by rfl) (wpList_loadQ rfl _ rfl rfl S6 ?_)) | (refine wpList_unguard (by rfl) (wpList_eqQ (q := q) rfl _ _ rfl rfl rfl ?_)))
  go_ret
  exact ⟨rfl, read_keep S5.out.2 hz2⟩
end Go.Proofs.YtnhemjdmleilcaaDoor
