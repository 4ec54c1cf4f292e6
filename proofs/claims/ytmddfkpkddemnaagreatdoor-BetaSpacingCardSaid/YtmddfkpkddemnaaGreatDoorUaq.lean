/- The walks of beta's forms that turn the router: the reader's methods, the closures over one pointer. Conditions: no word is longer than 10^9 bytes; Go's own tables lie below (EnvA); the router is within bounds (RtI). -/
import Derived.Test.YtmddfkpkddemnaaGreatDoorUao
import Derived.Test.YtmddfkpkddemnaaGreatDoorUab
import Derived.Test.YtmddfkpkddemnaaGreatDoorUx
import Derived.Deep.DeepCutAuto
import Derived.Deep.CutBlock
namespace Go.Proofs.YtmddfkpkddemnaaGreatDoor
open Go.RowKit
theorem WSt.blk1 {T : TypeId × Bool} {b B : Nat} {p : Ps} {w : World} (h : WSt T b B p w) : w.cell? ⟨b, 1, none⟩ = some (.bool T.2) := by
  obtain ⟨-, v, hv, -⟩ := h; rw [Lib.cell_of_heap hv]; rfl
set_option maxRecDepth 8000 in
set_option maxHeartbeats 4000000 in
theorem source_any (n : Int) (w : World) : Calls Tryz.prog 183 #[.int .i64 n] w fun e w' => e = .returned (.string (str (srcN n))) ∧ w = w' := by
  rcases (show n = 1 ∨ n = 2 ∨ n = 3 ∨ n = 4 ∨ (n ≠ 1 ∧ n ≠ 2 ∧ n ≠ 3 ∧ n ≠ 4) from by omega) with rfl | rfl | rfl | rfl | ⟨h1, h2, h3, h4⟩
  rotate_left 4
  · have d1 : (n == 1) = false := by simpa using h1
    have d2 : (n == 2) = false := by simpa using h2
    have d3 : (n == 3) = false := by simpa using h3
    have d4 : (n == 4) = false := by simpa using h4
    have E : Hid (srcN n = [112, 97, 116, 104, 45, 118, 101, 99, 116, 111, 114]) := Lib.hid (by unfold srcN; rw [if_neg h1, if_neg h2, if_neg h3, if_neg h4])
    clear h1 h2 h3 h4
    go_enter Tryz.func183, Tryz.ntmps183
    go_wp2_with fail
    go_ret
    exact ⟨by rw [E.out]; rfl, rfl⟩
  all_goals
    go_enter Tryz.func183, Tryz.ntmps183
    go_wp2_with fail
    go_ret
    exact ⟨rfl, rfl⟩
theorem str_imp (s : List UInt8) : (⟨#[105, 109, 112, 111, 114, 116, 32]⟩ : ByteArray) ++ str s = str (nmK [105, 109, 112, 111, 114, 116] s) := by
  apply ByteArray.ext
  simp [str, nmK, ByteArray.data_append]
set_option maxRecDepth 8000 in
set_option maxHeartbeats 4000000 in
theorem imported_lsRed {g B b k : Nat} {w0 w : World} {r : Rt} {K : Kept} {kb : Bool} {p : Ps} (H : Hid (BW g B w0 r K (147, kb) b p w)) (HR : Hid (RtI k r.plain)) (HK : Hid (k ≤ 1000000)) :
    Calls Tryz.prog 138 #[.pointer (some ⟨g, 11, none⟩), .agg (Rd.C ⟨0, 0, 0, [], 1⟩), .pointer (some ⟨b, 0, none⟩)] w fun e w' => ∃ v K' iv, e = .returned (.tuple #[strV (nmK [105, 109, 112, 111, 114, 116] (srcN (srcV p))), iv]) ∧ BW g B w0 { r with lsRedV := v, lsRed := r.lsRed ++ [({ (⟨0, 0, 0, [], 1⟩ : Rd) with frm := srcV p } : Rd)] } (K' ++ K) (147, kb) b (srcS p) w' ∧ (kb = false → iv = .nilFunc) ∧ (kb = true → RdV true v (r.lsRed ++ [({ (⟨0, 0, 0, [], 1⟩ : Rd) with frm := srcV p } : Rd)]) K' iv) ∧ ∀ k ∈ K', ∃ cs E, k.2 = .cells cs E (0, 0) := by
  have hbd : r.lsRed.length ≤ 1000000000 := (by have h := HR.out.lsRed.1; replace h : r.lsRed.length ≤ k := h; have := HK.out; omega)
  have one : (Rd.C ({ (⟨0, 0, 0, [], 1⟩ : Rd) with frm := srcV p } : Rd)).all (·.oneCell') = true := by simp [Rd.C, strV, Value.oneCell']
  have hsn := srcN_le (srcV p)
  have b1 : ¬ (9223372036854775807 < 7 + (str (srcN (srcV p))).size) := by rw [str_size]; omega
  have ret : ∀ iv : Value, Ending.returned (.tuple #[.string ((⟨#[105, 109, 112, 111, 114, 116, 32]⟩ : ByteArray) ++ str (srcN (srcV p))), iv]) = .returned (.tuple #[strV (nmK [105, 109, 112, 111, 114, 116] (srcN (srcV p))), iv]) := fun iv => by rw [str_imp]; rfl
  have X0 := Lib.hid (BX.new H.out 192 (Rd.C ⟨0, 0, 0, [], 1⟩))
  go_enter Tryz.func138, Tryz.ntmps138
  go_upto_region 1 with (fail)
  change Code.wp _ _ _ _ (w.alloc (.cells (Rd.C ⟨0, 0, 0, [], 1⟩) 192))
  generalize w.alloc (.cells (Rd.C ⟨0, 0, 0, [], 1⟩) 192) = wA at X0 ⊢
  go_wp2_with fail
  refine (wsource_any b B p _ X0.out.st).mono ?_
  rintro e w1 ⟨rfl, h1, k1⟩
  have H1 := Lib.hid (X0.out.word h1 k1)
  clear h1 k1
  obtain ⟨y0, c0⟩ := H1.out.cellx (j := 0) (show 0 < 5 from by decide)
  have fz := H1.out.frz
  have X2 : Hid (BX g B w0 r K (147, kb) b (srcS p) w.heap.size 192 (Rd.C ({ (⟨0, 0, 0, [], 1⟩ : Rd) with frm := srcV p } : Rd)) (w1.setCell ⟨w.heap.size, 0, none⟩ (.int .i64 (srcV p)))) := Lib.hid (H1.out.put 0 _ rfl)
  go_upto_region 2 with (fail)
  clear c0 fz
  generalize w1.setCell ⟨w.heap.size, 0, none⟩ (.int .i64 (srcV p)) = w2 at X2 ⊢
  have RG := Lib.hid X2.out.has.range
  go_wp2_with (refine wpList_loadRow rfl 192 _ rfl rfl RG.out Tryz.rowRd Tryz.sizeRd ?_)
  refine (add_lsRed X2.out.bw ({ (⟨0, 0, 0, [], 1⟩ : Rd) with frm := srcV p } : Rd) one hbd).mono ?_
  rintro e w3 ⟨gg, cap, cur, rfl, h3, -⟩
  have H3 := Lib.hid h3
  clear h3
  have hq : HasC 192 w.heap.size (Rd.C ({ (⟨0, 0, 0, [], 1⟩ : Rd) with frm := srcV p } : Rd)) w3 := (H3.out.keep _ List.mem_cons_self).1
  have q0 : w3.cell? ⟨w.heap.size, 0, none⟩ = .some (.int .i64 (srcV p)) := hq.cell 0
  have q4 : w3.cell? ⟨w.heap.size, 4, none⟩ = .some (.int .i64 1) := hq.cell 4
  have qb : w3.cell? ⟨b, 1, none⟩ = .some (.bool kb) := H3.out.st.blk1
  clear hq
  go_wp2_with fail
  refine (source_any (srcV p) w3).mono ?_
  rintro e w4 ⟨rfl, rfl⟩
  cases kb with
  | false =>
    go_wp2_with fail
    go_ret2
    exact ⟨_, [], .nilFunc, ret _, H3.out.less (fun _ hk => List.mem_cons_of_mem _ hk), rfl, fun _ _ h => by cases h⟩
  | true =>
    go_wp2_with fail
    refine (new_redistribution _ _ _).mono ?_
    rintro e w5 ⟨rfl, rfl⟩
    go_wp2_with fail
    go_ret2
    exact ⟨_, [((w3.alloc (.cells #[.pointer (some ⟨gg, r.lsRed.length * 5, none⟩)] 247)).heap.size, .cells #[.bool true] 4 (0, 0)), (w3.heap.size, .cells #[.pointer (some ⟨gg, r.lsRed.length * 5, none⟩)] 247 (0, 0))], _, ret _, (((H3.out.less (K' := K) (fun _ hk => List.mem_cons_of_mem _ hk)).box (.cells #[.pointer (some ⟨gg, r.lsRed.length * 5, none⟩)] 247)).box (.cells #[.bool true] 4)),
      ⟨gg, cap, r.lsRed, _, _, _, rfl, rfl, rfl, by simp, by simp⟩, fun k o hk => by
        simp only [List.mem_cons, List.not_mem_nil, or_false, Prod.mk.injEq] at hk
        rcases hk with ⟨rfl, rfl⟩ | ⟨rfl, rfl⟩ <;> exact ⟨_, _, rfl⟩⟩
set_option maxRecDepth 8000 in
set_option maxHeartbeats 4000000 in
theorem imported_dvRed {g B b k : Nat} {w0 w : World} {r : Rt} {K : Kept} {kb : Bool} {p : Ps} (H : Hid (BW g B w0 r K (147, kb) b p w)) (HR : Hid (RtI k r.plain)) (HK : Hid (k ≤ 1000000)) :
    Calls Tryz.prog 138 #[.pointer (some ⟨g, 16, none⟩), .agg (Rd.C ⟨0, 1, 0, [], 0⟩), .pointer (some ⟨b, 0, none⟩)] w fun e w' => ∃ v K' iv, e = .returned (.tuple #[strV (nmK [105, 109, 112, 111, 114, 116] (srcN (srcV p))), iv]) ∧ BW g B w0 { r with dvRedV := v, dvRed := r.dvRed ++ [({ (⟨0, 1, 0, [], 0⟩ : Rd) with frm := srcV p } : Rd)] } (K' ++ K) (147, kb) b (srcS p) w' ∧ (kb = false → iv = .nilFunc) ∧ (kb = true → RdV false v (r.dvRed ++ [({ (⟨0, 1, 0, [], 0⟩ : Rd) with frm := srcV p } : Rd)]) K' iv) ∧ ∀ k ∈ K', ∃ cs E, k.2 = .cells cs E (0, 0) := by
  have hbd : r.dvRed.length ≤ 1000000000 := (by have h := HR.out.dvRed.1; replace h : r.dvRed.length ≤ k := h; have := HK.out; omega)
  have one : (Rd.C ({ (⟨0, 1, 0, [], 0⟩ : Rd) with frm := srcV p } : Rd)).all (·.oneCell') = true := by simp [Rd.C, strV, Value.oneCell']
  have hsn := srcN_le (srcV p)
  have b1 : ¬ (9223372036854775807 < 7 + (str (srcN (srcV p))).size) := by rw [str_size]; omega
  have ret : ∀ iv : Value, Ending.returned (.tuple #[.string ((⟨#[105, 109, 112, 111, 114, 116, 32]⟩ : ByteArray) ++ str (srcN (srcV p))), iv]) = .returned (.tuple #[strV (nmK [105, 109, 112, 111, 114, 116] (srcN (srcV p))), iv]) := fun iv => by rw [str_imp]; rfl
  have X0 := Lib.hid (BX.new H.out 192 (Rd.C ⟨0, 1, 0, [], 0⟩))
  go_enter Tryz.func138, Tryz.ntmps138
  go_upto_region 1 with (fail)
  change Code.wp _ _ _ _ (w.alloc (.cells (Rd.C ⟨0, 1, 0, [], 0⟩) 192))
  generalize w.alloc (.cells (Rd.C ⟨0, 1, 0, [], 0⟩) 192) = wA at X0 ⊢
  go_wp2_with fail
  refine (wsource_any b B p _ X0.out.st).mono ?_
  rintro e w1 ⟨rfl, h1, k1⟩
  have H1 := Lib.hid (X0.out.word h1 k1)
  clear h1 k1
  obtain ⟨y0, c0⟩ := H1.out.cellx (j := 0) (show 0 < 5 from by decide)
  have fz := H1.out.frz
  have X2 : Hid (BX g B w0 r K (147, kb) b (srcS p) w.heap.size 192 (Rd.C ({ (⟨0, 1, 0, [], 0⟩ : Rd) with frm := srcV p } : Rd)) (w1.setCell ⟨w.heap.size, 0, none⟩ (.int .i64 (srcV p)))) := Lib.hid (H1.out.put 0 _ rfl)
  go_upto_region 2 with (fail)
  clear c0 fz
  generalize w1.setCell ⟨w.heap.size, 0, none⟩ (.int .i64 (srcV p)) = w2 at X2 ⊢
  have RG := Lib.hid X2.out.has.range
  go_wp2_with (refine wpList_loadRow rfl 192 _ rfl rfl RG.out Tryz.rowRd Tryz.sizeRd ?_)
  refine (add_dvRed X2.out.bw ({ (⟨0, 1, 0, [], 0⟩ : Rd) with frm := srcV p } : Rd) one hbd).mono ?_
  rintro e w3 ⟨gg, cap, cur, rfl, h3, -⟩
  have H3 := Lib.hid h3
  clear h3
  have hq : HasC 192 w.heap.size (Rd.C ({ (⟨0, 1, 0, [], 0⟩ : Rd) with frm := srcV p } : Rd)) w3 := (H3.out.keep _ List.mem_cons_self).1
  have q0 : w3.cell? ⟨w.heap.size, 0, none⟩ = .some (.int .i64 (srcV p)) := hq.cell 0
  have q4 : w3.cell? ⟨w.heap.size, 4, none⟩ = .some (.int .i64 0) := hq.cell 4
  have qb : w3.cell? ⟨b, 1, none⟩ = .some (.bool kb) := H3.out.st.blk1
  clear hq
  go_wp2_with fail
  refine (source_any (srcV p) w3).mono ?_
  rintro e w4 ⟨rfl, rfl⟩
  cases kb with
  | false =>
    go_wp2_with fail
    go_ret2
    exact ⟨_, [], .nilFunc, ret _, H3.out.less (fun _ hk => List.mem_cons_of_mem _ hk), rfl, fun _ _ h => by cases h⟩
  | true =>
    go_wp2_with fail
    refine (new_redistribution _ _ _).mono ?_
    rintro e w5 ⟨rfl, rfl⟩
    go_wp2_with fail
    go_ret2
    exact ⟨_, [((w3.alloc (.cells #[.pointer (some ⟨gg, r.dvRed.length * 5, none⟩)] 247)).heap.size, .cells #[.bool false] 4 (0, 0)), (w3.heap.size, .cells #[.pointer (some ⟨gg, r.dvRed.length * 5, none⟩)] 247 (0, 0))], _, ret _, (((H3.out.less (K' := K) (fun _ hk => List.mem_cons_of_mem _ hk)).box (.cells #[.pointer (some ⟨gg, r.dvRed.length * 5, none⟩)] 247)).box (.cells #[.bool false] 4)),
      ⟨gg, cap, r.dvRed, _, _, _, rfl, rfl, rfl, by simp, by simp⟩, fun k o hk => by
        simp only [List.mem_cons, List.not_mem_nil, or_false, Prod.mk.injEq] at hk
        rcases hk with ⟨rfl, rfl⟩ | ⟨rfl, rfl⟩ <;> exact ⟨_, _, rfl⟩⟩
set_option maxRecDepth 8000 in
set_option maxHeartbeats 4000000 in
theorem imported_pvRed {g B b k : Nat} {w0 w : World} {r : Rt} {K : Kept} {kb : Bool} {p : Ps} (H : Hid (BW g B w0 r K (147, kb) b p w)) (HR : Hid (RtI k r.plain)) (HK : Hid (k ≤ 1000000)) :
    Calls Tryz.prog 138 #[.pointer (some ⟨g, 24, none⟩), .agg (Rd.C ⟨0, 0, 0, [], 0⟩), .pointer (some ⟨b, 0, none⟩)] w fun e w' => ∃ v K' iv, e = .returned (.tuple #[strV (nmK [105, 109, 112, 111, 114, 116] (srcN (srcV p))), iv]) ∧ BW g B w0 { r with pvRedV := v, pvRed := r.pvRed ++ [({ (⟨0, 0, 0, [], 0⟩ : Rd) with frm := srcV p } : Rd)] } (K' ++ K) (147, kb) b (srcS p) w' ∧ (kb = false → iv = .nilFunc) ∧ (kb = true → RdV false v (r.pvRed ++ [({ (⟨0, 0, 0, [], 0⟩ : Rd) with frm := srcV p } : Rd)]) K' iv) ∧ ∀ k ∈ K', ∃ cs E, k.2 = .cells cs E (0, 0) := by
  have hbd : r.pvRed.length ≤ 1000000000 := (by have h := HR.out.pvRed.1; replace h : r.pvRed.length ≤ k := h; have := HK.out; omega)
  have one : (Rd.C ({ (⟨0, 0, 0, [], 0⟩ : Rd) with frm := srcV p } : Rd)).all (·.oneCell') = true := by simp [Rd.C, strV, Value.oneCell']
  have hsn := srcN_le (srcV p)
  have b1 : ¬ (9223372036854775807 < 7 + (str (srcN (srcV p))).size) := by rw [str_size]; omega
  have ret : ∀ iv : Value, Ending.returned (.tuple #[.string ((⟨#[105, 109, 112, 111, 114, 116, 32]⟩ : ByteArray) ++ str (srcN (srcV p))), iv]) = .returned (.tuple #[strV (nmK [105, 109, 112, 111, 114, 116] (srcN (srcV p))), iv]) := fun iv => by rw [str_imp]; rfl
  have X0 := Lib.hid (BX.new H.out 192 (Rd.C ⟨0, 0, 0, [], 0⟩))
  go_enter Tryz.func138, Tryz.ntmps138
  go_upto_region 1 with (fail)
  change Code.wp _ _ _ _ (w.alloc (.cells (Rd.C ⟨0, 0, 0, [], 0⟩) 192))
  generalize w.alloc (.cells (Rd.C ⟨0, 0, 0, [], 0⟩) 192) = wA at X0 ⊢
  go_wp2_with fail
  refine (wsource_any b B p _ X0.out.st).mono ?_
  rintro e w1 ⟨rfl, h1, k1⟩
  have H1 := Lib.hid (X0.out.word h1 k1)
  clear h1 k1
  obtain ⟨y0, c0⟩ := H1.out.cellx (j := 0) (show 0 < 5 from by decide)
  have fz := H1.out.frz
  have X2 : Hid (BX g B w0 r K (147, kb) b (srcS p) w.heap.size 192 (Rd.C ({ (⟨0, 0, 0, [], 0⟩ : Rd) with frm := srcV p } : Rd)) (w1.setCell ⟨w.heap.size, 0, none⟩ (.int .i64 (srcV p)))) := Lib.hid (H1.out.put 0 _ rfl)
  go_upto_region 2 with (fail)
  clear c0 fz
  generalize w1.setCell ⟨w.heap.size, 0, none⟩ (.int .i64 (srcV p)) = w2 at X2 ⊢
  have RG := Lib.hid X2.out.has.range
  go_wp2_with (refine wpList_loadRow rfl 192 _ rfl rfl RG.out Tryz.rowRd Tryz.sizeRd ?_)
  refine (add_pvRed X2.out.bw ({ (⟨0, 0, 0, [], 0⟩ : Rd) with frm := srcV p } : Rd) one hbd).mono ?_
  rintro e w3 ⟨gg, cap, cur, rfl, h3, -⟩
  have H3 := Lib.hid h3
  clear h3
  have hq : HasC 192 w.heap.size (Rd.C ({ (⟨0, 0, 0, [], 0⟩ : Rd) with frm := srcV p } : Rd)) w3 := (H3.out.keep _ List.mem_cons_self).1
  have q0 : w3.cell? ⟨w.heap.size, 0, none⟩ = .some (.int .i64 (srcV p)) := hq.cell 0
  have q4 : w3.cell? ⟨w.heap.size, 4, none⟩ = .some (.int .i64 0) := hq.cell 4
  have qb : w3.cell? ⟨b, 1, none⟩ = .some (.bool kb) := H3.out.st.blk1
  clear hq
  go_wp2_with fail
  refine (source_any (srcV p) w3).mono ?_
  rintro e w4 ⟨rfl, rfl⟩
  cases kb with
  | false =>
    go_wp2_with fail
    go_ret2
    exact ⟨_, [], .nilFunc, ret _, H3.out.less (fun _ hk => List.mem_cons_of_mem _ hk), rfl, fun _ _ h => by cases h⟩
  | true =>
    go_wp2_with fail
    refine (new_redistribution _ _ _).mono ?_
    rintro e w5 ⟨rfl, rfl⟩
    go_wp2_with fail
    go_ret2
    exact ⟨_, [((w3.alloc (.cells #[.pointer (some ⟨gg, r.pvRed.length * 5, none⟩)] 247)).heap.size, .cells #[.bool false] 4 (0, 0)), (w3.heap.size, .cells #[.pointer (some ⟨gg, r.pvRed.length * 5, none⟩)] 247 (0, 0))], _, ret _, (((H3.out.less (K' := K) (fun _ hk => List.mem_cons_of_mem _ hk)).box (.cells #[.pointer (some ⟨gg, r.pvRed.length * 5, none⟩)] 247)).box (.cells #[.bool false] 4)),
      ⟨gg, cap, r.pvRed, _, _, _, rfl, rfl, rfl, by simp, by simp⟩, fun k o hk => by
        simp only [List.mem_cons, List.not_mem_nil, or_false, Prod.mk.injEq] at hk
        rcases hk with ⟨rfl, rfl⟩ | ⟨rfl, rfl⟩ <;> exact ⟨_, _, rfl⟩⟩
end Go.Proofs.YtmddfkpkddemnaaGreatDoor
namespace Go.Proofs.YtmddfkpkddemnaaGreatDoor
open Go.RowKit
set_option maxRecDepth 8000 in
set_option maxHeartbeats 8000000 in
theorem distance_form : FormC .distance := by
  intro g B b k w0 w r K kb p fv h hf he hs hr hk
  obtain ⟨q, rfl, e4⟩ := hf
  refine ⟨139, #[], #[.pointer (some ⟨q, 0, none⟩)], rfl, enters_of Tryz.func139 (by kernel_rfl) rfl, ?_⟩
  show Calls Tryz.prog 139 #[.pointer (some ⟨b, 0, none⟩), .pointer (some ⟨q, 0, none⟩)] w _
  have HQ := Lib.hid e4
  have HKG : q ≠ g := (h.keep _ e4).2.1
  clear e4
  have H := Lib.hid h
  have HE := Lib.hid he
  have HS := Lib.hid hs
  have HR := Lib.hid hr
  have HK := Lib.hid hk
  clear h he hs hr hk
  have q0 : ((str (wV p)).toList == [112, 114, 101, 102, 101, 114, 101, 110, 99, 101]) = (wV p == [112, 114, 101, 102, 101, 114, 101, 110, 99, 101]) := by rw [toList_str]
  have q1 : ((str (wV p)).toList == [105, 110, 112, 117, 116]) = (wV p == [105, 110, 112, 117, 116]) := by rw [toList_str]
  have q2 : ((str (wV p)).toList == [111, 117, 116, 112, 117, 116]) = (wV p == [111, 117, 116, 112, 117, 116]) := by rw [toList_str]
  have q3 : ((str (wV p)).toList == [105, 109, 112, 111, 114, 116]) = (wV p == [105, 109, 112, 111, 114, 116]) := by rw [toList_str]
  go_enter Tryz.func139, Tryz.ntmps139
  go_wp2_with fail
  refine (wnext_any b B p _ H.out.st).mono ?_
  rintro e w1 ⟨rfl, h1, k1⟩
  have H1 := Lib.hid (H.out.word h1 k1)
  clear h1 k1
  unfold strV
  cases e0 : (wV p == [112, 114, 101, 102, 101, 114, 101, 110, 99, 101]) with
  | true =>
    rw [e0] at q0
    have E : Hid (distanceF kb r.plain p = (wV p, none, ({ r with dvAdmin := noV 1 255 (wS p) } : Rt).plain, noS 1 255 (wS p))) := Lib.hid (by unfold distanceF; rw [e0]; rfl)
    have ck := H1.out.kc HQ.out
    go_wp2_with fail
    have D2 := Lib.hid H1.out.drew
    go_region_held3 (fun w' => w'.cell? ⟨q, 0, none⟩ = some (.pointer (some ⟨g, 12, none⟩))) (first | assumption | with_reducible exact D2.out.kc HQ.out | with_reducible exact H2.out.kc HQ.out | ((repeat with_reducible refine set_other HKG ?_); first | assumption | with_reducible exact H2.out.kc HQ.out)) (((with_reducible refine (wnumber_any b B (wS p) 1 255 _ D2.out.st).mono ?_); rintro e w2 ⟨rfl, h2, k2⟩; have H2 := Lib.hid (D2.out.word h2 k2); clear h2 k2; obtain ⟨y13, c13⟩ := H2.out.toBR.cellx 13 (by decide); have fz := H2.out.toBR.frz))
    go_wp2_with fail
    go_ret2
    exact ⟨_, none, { r with dvAdmin := noV 1 255 (wS p) }, _, [], .nilFunc, E.out, rfl, (H2.out.put 13 _ rfl rfl), fun _ => ⟨rfl, rfl, rfl, rfl, rfl, rfl⟩, fun _ q => q, rfl, fun _ h => by cases h⟩
  | false =>
    rw [e0] at q0
    cases e1 : (wV p == [105, 110, 112, 117, 116]) with
    | true =>
      rw [e1] at q1
      have E : Hid (distanceF kb r.plain p = (wV p, none, ({ r with dvIn := nmV (wS p) } : Rt).plain, nmS (wS p))) := Lib.hid (by unfold distanceF; rw [e0, e1]; rfl)
      have ck := H1.out.kc HQ.out
      go_wp2_with fail
      have D2 := Lib.hid H1.out.drew
      go_region_held3 (fun w' => w'.cell? ⟨q, 0, none⟩ = some (.pointer (some ⟨g, 12, none⟩))) (first | assumption | with_reducible exact D2.out.kc HQ.out | with_reducible exact H2.out.kc HQ.out | ((repeat with_reducible refine set_other HKG ?_); first | assumption | with_reducible exact H2.out.kc HQ.out)) (((with_reducible refine (wname_any b B (wS p) _ D2.out.st).mono ?_); rintro e w2 ⟨rfl, h2, k2⟩; have H2 := Lib.hid (D2.out.word h2 k2); clear h2 k2; unfold strV; obtain ⟨y14, c14⟩ := H2.out.toBR.cellx 14 (by decide); have fz := H2.out.toBR.frz))
      go_wp2_with fail
      go_ret2
      exact ⟨_, none, { r with dvIn := nmV (wS p) }, _, [], .nilFunc, E.out, rfl, (H2.out.put 14 _ rfl rfl), fun _ => ⟨rfl, rfl, rfl, rfl, rfl, rfl⟩, fun _ q => q, rfl, fun _ h => by cases h⟩
    | false =>
      rw [e1] at q1
      cases e2 : (wV p == [111, 117, 116, 112, 117, 116]) with
      | true =>
        rw [e2] at q2
        have E : Hid (distanceF kb r.plain p = (wV p, none, ({ r with dvOut := nmV (wS p) } : Rt).plain, nmS (wS p))) := Lib.hid (by unfold distanceF; rw [e0, e1, e2]; rfl)
        have ck := H1.out.kc HQ.out
        go_wp2_with fail
        have D2 := Lib.hid H1.out.drew
        go_region_held3 (fun w' => w'.cell? ⟨q, 0, none⟩ = some (.pointer (some ⟨g, 12, none⟩))) (first | assumption | with_reducible exact D2.out.kc HQ.out | with_reducible exact H2.out.kc HQ.out | ((repeat with_reducible refine set_other HKG ?_); first | assumption | with_reducible exact H2.out.kc HQ.out)) (((with_reducible refine (wname_any b B (wS p) _ D2.out.st).mono ?_); rintro e w2 ⟨rfl, h2, k2⟩; have H2 := Lib.hid (D2.out.word h2 k2); clear h2 k2; unfold strV; obtain ⟨y15, c15⟩ := H2.out.toBR.cellx 15 (by decide); have fz := H2.out.toBR.frz))
        go_wp2_with fail
        go_ret2
        exact ⟨_, none, { r with dvOut := nmV (wS p) }, _, [], .nilFunc, E.out, rfl, (H2.out.put 15 _ rfl rfl), fun _ => ⟨rfl, rfl, rfl, rfl, rfl, rfl⟩, fun _ q => q, rfl, fun _ h => by cases h⟩
      | false =>
        rw [e2] at q2
        cases e3 : (wV p == [105, 109, 112, 111, 114, 116]) with
        | true =>
          rw [e3] at q3
          have E : Hid (∀ v : Value, distanceF kb r.plain p = (nmK [105, 109, 112, 111, 114, 116] (srcN (srcV (wS p))), if kb then some .redDV else none, ({ r with dvRedV := v, dvRed := r.dvRed ++ [({ (⟨0, 1, 0, [], 0⟩ : Rd) with frm := srcV (wS p) } : Rd)] } : Rt).plain, srcS (wS p))) := Lib.hid (fun v => by unfold distanceF; rw [e0, e1, e2, e3]; rfl)
          have ck := H1.out.kc HQ.out
          go_wp2_with fail
          refine (imported_dvRed H1 HR HK).mono ?_
          rintro e w2 ⟨v, K', iv, rfl, hb, hi0, hi1, hn⟩
          have H2 := Lib.hid hb
          have HN := Lib.hid hn
          clear hb hn ck
          cases kb with
          | false =>
            obtain rfl := hi0 rfl
            clear hi0 hi1
            go_wp2_with fail
            go_ret2
            exact ⟨_, none, _, _, K', .nilFunc, E.out v, rfl, H2.out, fun _ => ⟨rfl, rfl, rfl, rfl, rfl, rfl⟩, fun _ q => q, rfl, fun k hk => HN.out k hk⟩
          | true =>
            have HI := Lib.hid (hi1 rfl)
            clear hi0 hi1
            obtain ⟨g1, cap1, l1, x1, k1, k2, e1, e2, e3, e4, e5⟩ := HI.out
            subst e3
            clear e1 e2 e4 e5
            go_wp2_with fail
            go_ret2
            exact ⟨_, some .redDV, _, _, K', _, E.out v, rfl, H2.out, fun _ => ⟨rfl, rfl, rfl, rfl, rfl, rfl⟩, fun _ q => q, ⟨by decide, rfl, HI.out⟩, fun k hk => HN.out k hk⟩
        | false =>
          rw [e3] at q3
          have E : Hid (distanceF kb r.plain p = (wV p, none, r.plain, (wS p).fail)) := Lib.hid (by unfold distanceF; rw [e0, e1, e2, e3]; rfl)
          have fb := H1.out.st.frz 2
          have cb := H1.out.st.bad1
          go_wp2_with fail
          clear fb cb
          go_ret2
          exact ⟨_, none, r, _, [], .nilFunc, E.out, rfl, H1.out.bad, fun _ => ⟨rfl, rfl, rfl, rfl, rfl, rfl⟩, fun _ q => q, rfl, fun _ h => by cases h⟩
end Go.Proofs.YtmddfkpkddemnaaGreatDoor
namespace Go.Proofs.YtmddfkpkddemnaaGreatDoor
open Go.RowKit
/-- The load of the slice in 'x.Ranges = append(x.Ranges, ..)', under a name: so that the region's walk does not try to take it first. -/
def ldRanges : Op := .load 28 (.tmp 24)
set_option maxRecDepth 8000 in
set_option maxHeartbeats 8000000 in
theorem linkState_form : FormC .linkState := by
  intro g B b k w0 w r K kb p fv h hf he hs hr hk
  obtain ⟨q, rfl, e4⟩ := hf
  refine ⟨137, #[], #[.pointer (some ⟨q, 0, none⟩)], rfl, enters_of Tryz.func137 (by kernel_rfl) rfl, ?_⟩
  show Calls Tryz.prog 137 #[.pointer (some ⟨b, 0, none⟩), .pointer (some ⟨q, 0, none⟩)] w _
  have HQ := Lib.hid e4
  have HKG : q ≠ g := (h.keep _ e4).2.1
  clear e4
  have H := Lib.hid h
  have HE := Lib.hid he
  have HS := Lib.hid hs
  have HR := Lib.hid hr
  have HK := Lib.hid hk
  clear h he hs hr hk
  have q0 : ((str (wV p)).toList == [112, 114, 101, 102, 101, 114, 101, 110, 99, 101]) = (wV p == [112, 114, 101, 102, 101, 114, 101, 110, 99, 101]) := by rw [toList_str]
  have q1 : ((str (wV p)).toList == [114, 97, 110, 103, 101]) = (wV p == [114, 97, 110, 103, 101]) := by rw [toList_str]
  have q2 : ((str (wV p)).toList == [105, 109, 112, 111, 114, 116]) = (wV p == [105, 109, 112, 111, 114, 116]) := by rw [toList_str]
  go_enter Tryz.func137, Tryz.ntmps137
  go_wp2_with fail
  refine (wnext_any b B p _ H.out.st).mono ?_
  rintro e w1 ⟨rfl, h1, k1⟩
  have H1 := Lib.hid (H.out.word h1 k1)
  clear h1 k1
  unfold strV
  cases e0 : (wV p == [112, 114, 101, 102, 101, 114, 101, 110, 99, 101]) with
  | true =>
    rw [e0] at q0
    have E : Hid (linkStateF kb r.plain p = (wV p, none, ({ r with lsAdmin := noV 1 255 (wS p) } : Rt).plain, noS 1 255 (wS p))) := Lib.hid (by unfold linkStateF; rw [e0]; rfl)
    have ck := H1.out.kc HQ.out
    go_wp2_with fail
    have D2 := Lib.hid H1.out.drew
    go_region_held3 (fun w' => w'.cell? ⟨q, 0, none⟩ = some (.pointer (some ⟨g, 8, none⟩))) (first | assumption | with_reducible exact D2.out.kc HQ.out | with_reducible exact H2.out.kc HQ.out | ((repeat with_reducible refine set_other HKG ?_); first | assumption | with_reducible exact H2.out.kc HQ.out)) (((with_reducible refine (wnumber_any b B (wS p) 1 255 _ D2.out.st).mono ?_); rintro e w2 ⟨rfl, h2, k2⟩; have H2 := Lib.hid (D2.out.word h2 k2); clear h2 k2; obtain ⟨y9, c9⟩ := H2.out.toBR.cellx 9 (by decide); have fz := H2.out.toBR.frz))
    go_wp2_with fail
    go_ret2
    exact ⟨_, none, { r with lsAdmin := noV 1 255 (wS p) }, _, [], .nilFunc, E.out, rfl, (H2.out.put 9 _ rfl rfl), fun _ => ⟨rfl, rfl, rfl, rfl, rfl, rfl⟩, fun _ q => q, rfl, fun _ h => by cases h⟩
  | false =>
    rw [e0] at q0
    cases e1 : (wV p == [114, 97, 110, 103, 101]) with
    | true =>
      rw [e1] at q1
      have E : Hid (∀ v : Value, linkStateF kb r.plain p = ([], none, ({ r with rangesV := v, ranges := r.ranges ++ [(⟨noV 0 255 (wS p), (pxV (noS 0 255 (wS p))).1, (pxV (noS 0 255 (wS p))).2⟩ : AR)] } : Rt).plain, pxS (noS 0 255 (wS p)))) := Lib.hid (fun v => by unfold linkStateF; rw [e0, e1]; rfl)
      have hm : rowE 122 3 AR.C r.rangesV r.ranges ∈ btR r := List.mem_of_getElem? (i := 3) rfl
      have hbd : r.ranges.length ≤ 1000000000 := (by have h := HR.out.ranges.1; replace h : r.ranges.length ≤ k := h; have := HK.out; omega)
      obtain ⟨A0, c0, hnv, -⟩ := (rowE_own.1 (H1.out.own.1 _ hm)).slv
      have HNV := Lib.hid hnv
      have ck : w1.cell? ⟨q, 0, none⟩ = some (.pointer (some ⟨g, 8, none⟩)) := H1.out.kc HQ.out
      have cr : w1.cell? ⟨g, 10, none⟩ = some (.slice A0 r.ranges.length c0) := by rw [← hnv]; exact H1.out.toBR.cell 10
      have D1 := Lib.hid H1.out.drew
      have HM := Lib.hid hm
      clear hnv hm
      go_wp2_with fail
      have hld : ldRanges = Op.load 28 (.tmp 24) := rfl
      rw [← hld]
      go_region_held3 (fun w' => w'.cell? ⟨q, 0, none⟩ = some (.pointer (some ⟨g, 8, none⟩))) (first | assumption | with_reducible exact D1.out.kc HQ.out | with_reducible exact cka _ | with_reducible exact set_other HKG ck5) (first | ((with_reducible refine (wnumber_any b B (wS p) 0 255 _ D1.out.st).mono ?_); rintro e w2 ⟨rfl, h2, k2⟩; have H2 := Lib.hid (D1.out.word h2 k2); clear h2 k2; have ck2 : w2.cell? ⟨q, 0, none⟩ = some (.pointer (some ⟨g, 8, none⟩)) := H2.out.kc HQ.out; have cr2 : w2.cell? ⟨g, 10, none⟩ = some (.slice A0 r.ranges.length c0) := (H2.out.toBR.cell 10).trans (congrArg some HNV.out)) | ((with_reducible refine (wprefix_any b B (noS 0 255 (wS p)) _ H2.out.st (H2.out.toBR.env HE.out) (short_no _ _ (short_wS HS.out))).mono ?_); rintro e w3 ⟨rfl, h3, k3⟩; have H3 := Lib.hid (H2.out.word h3 k3); clear h3 k3; have ck3 : w3.cell? ⟨q, 0, none⟩ = some (.pointer (some ⟨g, 8, none⟩)) := H3.out.kc HQ.out; have cr3 : w3.cell? ⟨g, 10, none⟩ = some (.slice A0 r.ranges.length c0) := (H3.out.toBR.cell 10).trans (congrArg some HNV.out); have cka : ∀ o, (w3.alloc o).cell? ⟨q, 0, none⟩ = some (.pointer (some ⟨g, 8, none⟩)) := (fun o => (World.cell?_alloc_lt w3 o ⟨q, 0, none⟩ (blk_lt (H3.out.keep _ HQ.out).1)).trans ck3); have cra : ∀ o, (w3.alloc o).cell? ⟨g, 10, none⟩ = some (.slice A0 r.ranges.length c0) := (fun o => (World.cell?_alloc_lt w3 o ⟨g, 10, none⟩ H3.out.toBR.lt).trans cr3); obtain ⟨A5, m5, c5, w5, hr, ho5, hg5, hn5⟩ := (rowE_own.1 (H3.out.own.1 _ HM.out)).push (P := Tryz.prog) (Nat.le_trans H3.out.bB H3.out.size) kAR.sl kAR.info (by decide) (fun _ => rfl) (⟨noV 0 255 (wS p), (pxV (noS 0 255 (wS p))).1, (pxV (noS 0 255 (wS p))).2⟩ : AR) (AR.one _) (by omega) (by decide) 28; obtain ⟨c6, f6⟩ := own_kept hg5 (fun e => H3.out.gr (List.mem_filterMap.2 ⟨_, HM.out, e⟩)) (H3.out.toBR.cell 10) (H3.out.toBR.frz 10); have ck5 := (own_kept hg5 (fun e => (H3.out.keep _ HQ.out).2.2 (List.mem_filterMap.2 ⟨_, HM.out, e⟩)) (H3.out.kc HQ.out) (Lib.frozen_of_heap (H3.out.keep _ HQ.out).1 0)).1; have HB5 := Lib.hid (H3.out.grow (r' := { r with rangesV := .slice A5 m5 c5, ranges := r.ranges ++ [(⟨noV 0 255 (wS p), (pxV (noS 0 255 (wS p))).1, (pxV (noS 0 255 (wS p))).2⟩ : AR)] }) (v := r.rangesV) (v' := .slice A5 m5 c5) (l := r.ranges) (l' := r.ranges ++ [(⟨noV 0 255 (wS p), (pxV (noS 0 255 (wS p))).1, (pxV (noS 0 255 (wS p))).2⟩ : AR)]) (E := 122) (n := 3) (C := AR.C) (ex := []) (j := 10) (permAt (t := (btR r).take 3) (z := (btR r).drop 4) rfl) (permAt (t := (btR r).take 3) (z := (btR r).drop 4) rfl) (fun o ho => by cases ho) ho5 hg5 hn5 rfl); rw [HNV.out] at hr; have HR5 := Lib.hid hr; clear hr ho5 hn5 hg5) | (refine step_appendR rfl _ _ 28 28 rfl (.slice A0 r.ranges.length c0) (.slice (some ⟨w3.heap.size, 0, none⟩) 1 1) (by simp [Act.eval]) (by simp [Act.eval]) HR5.out ?_))
      all_goals
        go_wp2_with fail
        go_ret2
        exact ⟨[], none, _, _, [], .nilFunc, E.out _, rfl, HB5.out, fun _ => ⟨rfl, rfl, rfl, rfl, rfl, rfl⟩, fun _ q => q, rfl, fun _ h => by cases h⟩
    | false =>
      rw [e1] at q1
      cases e2 : (wV p == [105, 109, 112, 111, 114, 116]) with
      | true =>
        rw [e2] at q2
        have E : Hid (∀ v : Value, linkStateF kb r.plain p = (nmK [105, 109, 112, 111, 114, 116] (srcN (srcV (wS p))), if kb then some .redLS else none, ({ r with lsRedV := v, lsRed := r.lsRed ++ [({ (⟨0, 0, 0, [], 1⟩ : Rd) with frm := srcV (wS p) } : Rd)] } : Rt).plain, srcS (wS p))) := Lib.hid (fun v => by unfold linkStateF; rw [e0, e1, e2]; rfl)
        have ck := H1.out.kc HQ.out
        go_wp2_with fail
        refine (imported_lsRed H1 HR HK).mono ?_
        rintro e w2 ⟨v, K', iv, rfl, hb, hi0, hi1, hn⟩
        have H2 := Lib.hid hb
        have HN := Lib.hid hn
        clear hb hn ck
        cases kb with
        | false =>
          obtain rfl := hi0 rfl
          clear hi0 hi1
          go_wp2_with fail
          go_ret2
          exact ⟨_, none, _, _, K', .nilFunc, E.out v, rfl, H2.out, fun _ => ⟨rfl, rfl, rfl, rfl, rfl, rfl⟩, fun _ q => q, rfl, fun k hk => HN.out k hk⟩
        | true =>
          have HI := Lib.hid (hi1 rfl)
          clear hi0 hi1
          obtain ⟨g1, cap1, l1, x1, k1, k2, e1, e2, e3, e4, e5⟩ := HI.out
          subst e3
          clear e1 e2 e4 e5
          go_wp2_with fail
          go_ret2
          exact ⟨_, some .redLS, _, _, K', _, E.out v, rfl, H2.out, fun _ => ⟨rfl, rfl, rfl, rfl, rfl, rfl⟩, fun _ q => q, ⟨by decide, rfl, HI.out⟩, fun k hk => HN.out k hk⟩
      | false =>
        rw [e2] at q2
        have E : Hid (linkStateF kb r.plain p = (wV p, none, r.plain, (wS p).fail)) := Lib.hid (by unfold linkStateF; rw [e0, e1, e2]; rfl)
        have fb := H1.out.st.frz 2
        have cb := H1.out.st.bad1
        go_wp2_with fail
        clear fb cb
        go_ret2
        exact ⟨_, none, r, _, [], .nilFunc, E.out, rfl, H1.out.bad, fun _ => ⟨rfl, rfl, rfl, rfl, rfl, rfl⟩, fun _ q => q, rfl, fun _ h => by cases h⟩
end Go.Proofs.YtmddfkpkddemnaaGreatDoor
