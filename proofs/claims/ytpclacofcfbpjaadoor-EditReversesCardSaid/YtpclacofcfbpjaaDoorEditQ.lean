/- The walks of awake and short of netverifylaw42. Condition: MaxLen's cell. -/
import Derived.Test.YtpclacofcfbpjaaDoorEditP
namespace Go.Proofs.YtpclacofcfbpjaaDoor
open Go.RowKit

theorem alloc_cell (w : World) (cs : Array Value) (t : TypeId) (j : Nat) : (w.alloc (.cells cs t)).cell? ⟨w.heap.size, j, none⟩ = cs[j]? := World.cell?_alloc_at _ _ _ _ rfl
theorem sl_new (w : World) (ls : List (List UInt8)) (cs : Array Value) (t : TypeId) (h : cs = (ls.map strV).toArray) (hm : ls.length ≤ 1000000) :
    Sl (w.alloc (.cells cs t)) (w.alloc (.cells cs t)).heap.size (.slice (some ⟨w.heap.size, 0, none⟩) ls.length ls.length) ls := by
  refine ⟨_, _, rfl, Nat.le_refl _, _, _, rfl, by unfold maxLen; omega, by simp, fun h => (by cases h), fun _ => ⟨_, _, rfl, by simp, fun j u hu => ?_⟩⟩
  rw [Nat.zero_add, alloc_cell, h]
  simpa using hu
theorem el_new (w : World) (es : List Ed) (cs : Array Value) (t : TypeId) (h : cs = (es.flatMap edCells).toArray) (hm : es.length ≤ 1000000) :
    EL (w.alloc (.cells cs t)) (w.alloc (.cells cs t)).heap.size (.slice (some ⟨w.heap.size, 0, none⟩) es.length es.length) es := by
  refine ⟨_, _, rfl, Nat.le_refl _, _, _, rfl, by unfold maxLen; omega, by rw [ed_len], fun h => (by cases h), fun _ => ⟨_, _, rfl, by simp, fun j u hu => ?_⟩⟩
  rw [Nat.zero_add, alloc_cell, h]
  simpa using hu
def awText : List UInt8 := [97, 32, 112, 101, 114, 109, 105, 116, 59, 32, 98, 10, 99, 10, 100]
def awRes : List UInt8 := [97, 32, 100, 101, 110, 121, 59, 32, 98, 10, 120, 10, 100, 10]
def awEds : List Ed := [⟨0, 2, 1, []⟩, ⟨0, 1, 2, []⟩, ⟨0, 2, 3, [120]⟩]
theorem aw_err : applyErr [awText] awEds = 0 := by decide +kernel
theorem aw_of : applyOf [awText] awEds = [awRes] := by decide +kernel

theorem awake_apply (w : World) (hM : MaxCell w) : Calls Tryd.prog 13 #[.slice (some ⟨w.heap.size + 1, 0, none⟩) 1 1, .slice (some ⟨w.heap.size, 0, none⟩) 3 3] ((w.alloc (.cells #[.int .i64 0, .int .i64 2, .int .i64 1, .string ⟨#[]⟩, .int .i64 0, .int .i64 1, .int .i64 2, .string ⟨#[]⟩, .int .i64 0, .int .i64 2, .int .i64 3, .string ⟨#[120]⟩] 32)).alloc (.cells #[.string ⟨#[97, 32, 112, 101, 114, 109, 105, 116, 59, 32, 98, 10, 99, 10, 100]⟩] 9))
    fun e w' => ∃ g o c, e = .returned (.tuple #[.slice (some ⟨g, o, none⟩) 1 c, .int .i64 0]) ∧ w'.cell? ⟨g, o, none⟩ = some (.string ⟨#[97, 32, 100, 101, 110, 121, 59, 32, 98, 10, 120, 10, 100, 10]⟩) ∧ Below w.heap.size w w' := by
  have hb1 := below_box w (.cells #[.int .i64 0, .int .i64 2, .int .i64 1, .string ⟨#[]⟩, .int .i64 0, .int .i64 1, .int .i64 2, .string ⟨#[]⟩, .int .i64 0, .int .i64 2, .int .i64 3, .string ⟨#[120]⟩] 32)
  have hb2 := below_box (w.alloc (.cells #[.int .i64 0, .int .i64 2, .int .i64 1, .string ⟨#[]⟩, .int .i64 0, .int .i64 1, .int .i64 2, .string ⟨#[]⟩, .int .i64 0, .int .i64 2, .int .i64 3, .string ⟨#[120]⟩] 32)) (.cells #[.string ⟨#[97, 32, 112, 101, 114, 109, 105, 116, 59, 32, 98, 10, 99, 10, 100]⟩] 9)
  have e1 : (w.alloc (.cells #[.int .i64 0, .int .i64 2, .int .i64 1, .string ⟨#[]⟩, .int .i64 0, .int .i64 1, .int .i64 2, .string ⟨#[]⟩, .int .i64 0, .int .i64 2, .int .i64 3, .string ⟨#[120]⟩] 32)).heap.size = w.heap.size + 1 := by simp
  have HT := sl_new (w.alloc (.cells #[.int .i64 0, .int .i64 2, .int .i64 1, .string ⟨#[]⟩, .int .i64 0, .int .i64 1, .int .i64 2, .string ⟨#[]⟩, .int .i64 0, .int .i64 2, .int .i64 3, .string ⟨#[120]⟩] 32)) [awText] #[.string ⟨#[97, 32, 112, 101, 114, 109, 105, 116, 59, 32, 98, 10, 99, 10, 100]⟩] 9 rfl (by decide)
  have HE := ((el_new w awEds #[.int .i64 0, .int .i64 2, .int .i64 1, .string ⟨#[]⟩, .int .i64 0, .int .i64 1, .int .i64 2, .string ⟨#[]⟩, .int .i64 0, .int .i64 2, .int .i64 3, .string ⟨#[120]⟩] 32 rfl (by decide)).below hb2).mono hb2.size
  rw [e1] at HT
  refine (apply_any _ _ [awText] awEds _ HT HE ((hM.below hb1).below hb2) (by decide) (by decide) (by decide)).mono ?_
  rintro e w1 ⟨v, rfl, hSl, hb3⟩
  rw [aw_of] at hSl
  obtain ⟨A, c, rfl, _, _, hs⟩ := hSl.form
  obtain ⟨g, o, rfl, _, c1⟩ := slc_at hs rfl (show 0 < [awRes].length by decide)
  exact ⟨g, o, c, by rw [aw_err]; rfl, c1, (hb1.trans (hb2.mono (by simp))).trans (hb3.mono (by simp; omega))⟩

set_option maxHeartbeats 1000000 in
theorem awake_any (w : World) (hM : MaxCell w) : Calls Tryd.prog 8 #[] w fun e w' => e = .returned (.bool true) ∧ Below w.heap.size w w' := by
  have HA := Lib.hid (awake_apply w hM)
  clear hM
  go_enter Tryd.func8, Tryd.ntmps8
  go_wp2_with fail
  refine HA.out.mono ?_
  rintro e w1 ⟨g, o, c, rfl, c1, hb⟩
  go_wp2_with fail
  go_ret
  exact ⟨rfl, hb⟩
end Go.Proofs.YtpclacofcfbpjaaDoor
