/- The law QueryFields: decimal, the arguments, the walk. Condition: Go's own tables and the words lie below the world's blocks (EnvB). -/
import Derived.Test.YtnhemjdmleilcaaDoorQryQ
import Derived.Test.YtnhemjdmleilcaaDoorArgs
import Derived.Deep.LoopGhost
import Derived.Deep.DeepCutAuto
namespace Go.Proofs.YtnhemjdmleilcaaDoor
open Go.RowKit

theorem conv1 (m : Nat) (w : World) : (convert 40 9 (.slice (some ⟨w.heap.size, 0, none⟩) 1 1)).run Tryd.prog (w.alloc (.cells #[.int .u8 (48 + (m : Int) % 10)] 5)) = .ok (.string (str [digC (m % 10)])) (w.alloc (.cells #[.int .u8 (48 + (m : Int) % 10)] 5)) := by
  refine run_convert_bytes_back (P := Tryd.prog) _ 40 9 5 ⟨w.heap.size, 0, none⟩ 1 [digC (m % 10)] Tryd.underlying40 Tryd.underlying5 Tryd.underlying9 (fun j hj => ?_)
  have hj0 : j = 0 := by simp at hj; omega
  subst hj0
  rw [addr_add, Nat.zero_add, new_cell]
  simp only [List.getElem_cons_zero, digC_toNat _ (Nat.mod_lt m (show 0 < 10 by omega))]
  have : (48 + (m : Int) % 10) = ((48 + m % 10 : Nat) : Int) := by omega
  rw [this]
  rfl
set_option maxRecDepth 100000 in
set_option maxHeartbeats 1000000 in
theorem ldecimal_any (n : Nat) (h : n ≤ 65535) (w : World) : Calls Tryd.prog 18 #[.int .i64 (n : Int)] w fun e w' => ∃ y : List UInt8, e = .returned (.string (str y)) ∧ y.length ≤ 7000 ∧ Below w.heap.size w w' := by
  have hc := conv1 n
  go_enter Tryd.func18, Tryd.ntmps18
  go_wp2_with fail
  clear hc
  go_loopw [0, 3] (fun m sv wr => ∃ (k : Nat) (y : List UInt8), m = .int .i64 k ∧ sv = .string (str y) ∧ k + y.length ≤ 6555 ∧ w.heap.size ≤ wr.heap.size ∧ Below w.heap.size w wr) (fun m _ _ => (intOf m).toNat)
  case atStart =>
    exact ⟨n / 10, [digC (n % 10)], by congr 1, rfl, by simp; omega, by simp, (Below.refl _ _).alloc (Nat.le_refl _) _⟩
  case round =>
    obtain ⟨k, y, rfl, rfl, hy, hz, hb⟩ := hrel
    have hc := conv1 k
    have q1 : Op.stringOp .add (str [digC (k % 10)]) (str y) = pure (.string (str (cat [digC (k % 10)] y))) := run_cat (by simp; omega)
    by_cases h0 : 0 < k
    · have d0 : decide ((0 : Int) < (k : Int)) = true := decide_eq_true (by omega)
      go_wp2_with fail
      go_roundw
      case rel => exact ⟨k / 10, cat [digC (k % 10)] y, by congr 1, rfl, by rw [cat_len]; simp; omega, by simp; omega, hb.alloc hz _⟩
      case measure => simp [intOf]; omega
    · have d0 : decide ((0 : Int) < (k : Int)) = false := decide_eq_false (by omega)
      go_wp2_with fail
      go_ret
      exact ⟨y, rfl, by omega, hb⟩

/-- A slice of numbers of sixteen bits as an argument. -/
def U16Arg (w : World) (A : Option Addr) (len cap : Nat) (zs : List Int) : Prop :=
  Slc w w.heap.size 1 (.slice A len cap) len (zs.map (Value.int .u16)) ∧ len = zs.length ∧ ∀ z ∈ zs, 0 ≤ z ∧ z ≤ 65535
theorem u16Arg_nil {w : World} : U16Arg w none 0 0 [] := ⟨Slc.nil, rfl, fun _ h => (by cases h)⟩
theorem u16Arg_mk {w : World} {x : Addr} {len cap : Nat} {ss : List Int} (hl : len ≤ cap) (hm : cap ≤ maxLen) (hz : ss.length = cap)
    (hc : ∀ i, i < ss.length → w.cell? (x.add i) = some (.int .u16 (ss.getD i 0))) (hw : ∀ s ∈ ss, (Lit.int .u16 s).wf = true) : U16Arg w (some x) len cap (ss.take len) := by
  have hlen : (ss.take len).length = len := by rw [List.length_take]; omega
  refine ⟨slc_arg hl hm (by simp; omega) ?_, by simp; omega, ?_⟩
  · intro i hi
    have hi' : i < len := by simp at hi; omega
    rw [hc i (by omega)]
    simp [List.getD_eq_getElem?_getD, List.getElem?_eq_getElem (show i < ss.length by omega)]
  · intro z hz'
    have := hw z (List.mem_of_mem_take hz')
    have h2 : 0 ≤ z ∧ z ≤ 65535 := by simpa [Lit.wf, IntKind.min, IntKind.max, IntKind.signed, IntKind.bits] using this
    exact h2
theorem slc_int {w : World} {B : Nat} {A : Option Addr} {n c : Nat} {kd : IntKind} {xs : List Int} (h : Slc w B 1 (.slice A n c) n (xs.map (Value.int kd))) (hn : n = xs.length) {k : Nat} (hk : k < xs.length) :
    ∃ g o, A = some ⟨g, o, none⟩ ∧ g < B ∧ w.cell? ⟨g, o + k, none⟩ = some (.int kd xs[k]) := by
  obtain ⟨A', c', e, _, _, _, h⟩ := h
  injection e with e1 e2 e3
  subst e1
  obtain ⟨g, o, rfl, hg, hc⟩ := h (by omega)
  exact ⟨g, o, rfl, hg, hc k _ (by simp [hk])⟩
def fieldWords : List (List UInt8) := [[100, 101, 108, 105, 118, 101, 114], [105, 115, 111, 108, 97, 116, 101], [116, 114, 97, 118, 101, 114, 115, 101], [108, 111, 111, 112, 108, 101, 115, 115], [104, 111, 108, 101, 108, 101, 115, 115], [101, 113, 117, 97, 116, 101], [102, 114, 111, 109], [116, 111], [118, 105, 97], [105, 102, 97, 99, 101], [108, 101, 102, 116], [114, 105, 103, 104, 116], [115, 114, 99], [100, 115, 116], [112, 114, 111, 116, 111], [115, 112, 111, 114, 116], [100, 112, 111, 114, 116], [102, 97, 105, 108, 117, 114, 101, 115], [114, 49], [114, 50], [101, 48], [49, 48, 46, 48, 46, 48, 46, 48, 47, 56], [48, 46, 48, 46, 48, 46, 48, 47, 48], [49, 48, 46, 48, 46, 48, 46, 49, 47, 56], [50, 53, 53, 46, 50, 53, 53, 46, 50, 53, 53, 46, 50, 53, 53, 47, 51, 50], [48, 55], [120, 35, 121], [35]]
theorem fieldWords_short : ∀ x ∈ fieldWords, x.length ≤ 18 := by decide
def FWC : Array Value := #[.string ⟨#[100, 101, 108, 105, 118, 101, 114]⟩, .string ⟨#[105, 115, 111, 108, 97, 116, 101]⟩, .string ⟨#[116, 114, 97, 118, 101, 114, 115, 101]⟩, .string ⟨#[108, 111, 111, 112, 108, 101, 115, 115]⟩, .string ⟨#[104, 111, 108, 101, 108, 101, 115, 115]⟩, .string ⟨#[101, 113, 117, 97, 116, 101]⟩, .string ⟨#[102, 114, 111, 109]⟩, .string ⟨#[116, 111]⟩, .string ⟨#[118, 105, 97]⟩, .string ⟨#[105, 102, 97, 99, 101]⟩, .string ⟨#[108, 101, 102, 116]⟩, .string ⟨#[114, 105, 103, 104, 116]⟩, .string ⟨#[115, 114, 99]⟩, .string ⟨#[100, 115, 116]⟩, .string ⟨#[112, 114, 111, 116, 111]⟩, .string ⟨#[115, 112, 111, 114, 116]⟩, .string ⟨#[100, 112, 111, 114, 116]⟩, .string ⟨#[102, 97, 105, 108, 117, 114, 101, 115]⟩, .string ⟨#[114, 49]⟩, .string ⟨#[114, 50]⟩, .string ⟨#[101, 48]⟩, .string ⟨#[49, 48, 46, 48, 46, 48, 46, 48, 47, 56]⟩, .string ⟨#[48, 46, 48, 46, 48, 46, 48, 47, 48]⟩, .string ⟨#[49, 48, 46, 48, 46, 48, 46, 49, 47, 56]⟩, .string ⟨#[50, 53, 53, 46, 50, 53, 53, 46, 50, 53, 53, 46, 50, 53, 53, 47, 51, 50]⟩, .string ⟨#[48, 55]⟩, .string ⟨#[120, 35, 121]⟩, .string ⟨#[35]⟩]
theorem FWC_eq : FWC = (fieldWords.map strV).toArray := rfl
theorem fw_cell {w : World} {g k : Nat} (h : w.heap[g]? = some (.cells FWC 9 (0, 0))) (hk : k < 28) : ∃ y : List UInt8, y.length ≤ 18 ∧ w.cell? ⟨g, k, none⟩ = some (.string (str y)) := by
  have hl : k < fieldWords.length := hk
  refine ⟨fieldWords[k], fieldWords_short _ (List.getElem_mem hl), ?_⟩
  rw [Lib.cell_of_heap h, FWC_eq]
  simp [hl, strV]
set_option maxRecDepth 100000 in
set_option maxHeartbeats 4000000 in
theorem queryFields_walk (A : Option Addr) (len cap : Nat) (zs : List Int) (A2 : Option Addr) (len2 cap2 : Nat) (ys : List Int) (tb : Bool) (w : World) (he : EnvB w.heap.size w) (hS : BytesArg w A len cap zs) (_ : len ≤ cap) (hT : U16Arg w A2 len2 cap2 ys) (_ : len2 ≤ cap2) :
    Calls Tryd.prog 6 #[.slice A len cap, .slice A2 len2 cap2, .bool tb] w fun e w' => e = .returned (.bool true) ∧ Below w.heap.size w w' := by
  obtain ⟨hs, rfl, hz8⟩ := hS
  obtain ⟨ht, rfl, hy8⟩ := hT
  have HA := Lib.hid (awake_any w he)
  have HE := Lib.hid he
  have HS := Lib.hid hs
  have HT := Lib.hid ht
  have HZ8 := Lib.hid hz8
  have HY8 := Lib.hid hy8
  clear he hs ht hz8 hy8
  go_enter Tryd.func6, Tryd.ntmps6
  go_wp2_with fail
  refine HA.out.mono ?_
  rintro e w1 ⟨rfl, hb1⟩
  by_cases h40 : 40 < zs.length
  · go_wp2_with fail
    go_ret
    exact ⟨rfl, hb1⟩
  have d40 : decide ((40 : Int) < zs.length) = false := decide_eq_false (by omega)
  have B1 := Lib.hid hb1
  have HS1 := Lib.hid (HS.out.below hb1)
  have HT1 := Lib.hid (HT.out.below hb1)
  have HW0 : Hid ((w1.alloc (.cells FWC 9)).heap[w1.heap.size]? = some (.cells FWC 9 (0, 0))) := Lib.hid (heap_alloc_new w1 _)
  have hbx : Below w1.heap.size w1 (w1.alloc (.cells FWC 9)) := (Below.refl _ _).alloc (Nat.le_refl _) _
  clear hb1 HS HT HA
  go_wp2_with fail
  go_loopg [8, 9] zs.length (fun gh sv ix wr => ∃ (q : Nat) (x : List UInt8), gh = zs.length - q ∧ q ≤ zs.length ∧ ix = .int .i64 q ∧ sv = .string (str x) ∧ x.length ≤ 7100 * q ∧ Hid (wr.heap[w1.heap.size]? = some (.cells FWC 9 (0, 0))) ∧ w1.heap.size + 1 ≤ wr.heap.size ∧ Below w1.heap.size w1 wr)
  case atStart => exact ⟨0, [], by omega, by omega, rfl, rfl, by simp, HW0, by simp, hbx⟩
  case round =>
    clear hbx HW0
    obtain ⟨q, x, rfl, hq, rfl, rfl, hx, HW, hzW, hbW⟩ := hrel
    by_cases hlt : q < zs.length
    case pos =>
      obtain ⟨g, o, eA, hg, c1⟩ := slc_int (HS1.out.below (hbW.mono B1.out.size)) rfl hlt
      have hz8 := HZ8.out _ (List.getElem_mem hlt)
      generalize zs[q] = z at c1 hz8
      obtain ⟨zn, rfl⟩ : ∃ n : Nat, z = n := ⟨z.toNat, by omega⟩
      subst eA
      go_upto_region 12 with fail
      go_cut [43] (fun bv wx => ∃ b : Bool, bv = .bool b ∧ wr = wx)
      case first =>
        cases tb with
        | false =>
          go_wp2_with fail
          go_meet
          exact ⟨_, rfl, rfl⟩
        | true =>
          go_wp2_with fail
          go_meet
          exact ⟨_, rfl, rfl⟩
      case rest =>
      obtain ⟨b, rfl, rfl⟩ := hcut
      go_upto_if 43 with fail
      go_cut [11] (fun gv wx => ∃ y : List UInt8, y.length ≤ 2 ∧ gv = .string (str y) ∧ wr = wx)
      case first =>
        cases b with
        | false =>
          go_wp2_with fail
          go_meet
          exact ⟨[32], by simp, rfl, rfl⟩
        | true =>
          go_wp2_with fail
          go_meet
          exact ⟨[9, 32], by simp, rfl, rfl⟩
      case rest =>
      obtain ⟨y, hy, rfl, rfl⟩ := hcut
      have q1 : Op.stringOp .add (str x) (str y) = pure (.string (str (cat x y))) := run_cat (by omega)
      by_cases hk : zn % 32 < 28
      · obtain ⟨v, hv, c2⟩ := fw_cell HW.out hk
        have t1 : (zn : Int) % 32 < 28 := by omega
        have q2 : Op.stringOp .add (str (cat x y)) (str v) = pure (.string (str (cat (cat x y) v))) := run_cat (by rw [cat_len]; omega)
        go_wp2_with fail
        go_roundg (zs.length - (q + 1))
        case measure => omega
        case rel => exact ⟨q + 1, cat (cat x y) v, rfl, by omega, by go_num, rfl, by rw [cat_len, cat_len]; omega, HW, hzW, hbW⟩
      have t1 : ¬ (zn : Int) % 32 < 28 := by omega
      go_upto_if 60 with fail
      go_cut [12] (fun nv wx => ∃ m : Nat, m ≤ 65535 ∧ nv = .int .i64 (m : Int) ∧ wr = wx)
      case first =>
        by_cases hlt2 : q < ys.length
        · obtain ⟨g2, o2, eA2, hg2, c2⟩ := slc_int (HT1.out.below (hbW.mono B1.out.size)) rfl hlt2
          have hy8 := HY8.out _ (List.getElem_mem hlt2)
          generalize ys[q] = z2 at c2 hy8
          obtain ⟨yn, rfl⟩ : ∃ n : Nat, z2 = n := ⟨z2.toNat, by omega⟩
          subst eA2
          go_wp2_with fail
          go_meet
          exact ⟨yn, by omega, rfl, rfl⟩
        · go_wp2_with fail
          go_meet
          exact ⟨q, by omega, rfl, rfl⟩
      case rest =>
      obtain ⟨m, hm, rfl, rfl⟩ := hcut
      go_wp2_with fail
      have hd : m / 2 ^ (4 * (zn % 32 - 28)) ≤ 65535 := Nat.le_trans (Nat.div_le_self _ _) hm
      have hdc : (m : Int) / 2 ^ (4 * (zn % 32 - 28)) = ((m / 2 ^ (4 * (zn % 32 - 28)) : Nat) : Int) := by simp
      rw [hdc]
      generalize m / 2 ^ (4 * (zn % 32 - 28)) = d at hd
      clear hdc
      refine (ldecimal_any d hd _).mono ?_
      rintro e w2 ⟨v, rfl, hv, hb⟩
      have q2 : Op.stringOp .add (str (cat x y)) (str v) = pure (.string (str (cat (cat x y) v))) := run_cat (by rw [cat_len]; omega)
      have HW2 : Hid (w2.heap[w1.heap.size]? = some (.cells FWC 9 (0, 0))) := Lib.hid ((hb.block _ (by omega)).trans HW.out)
      have hzW2 : w1.heap.size + 1 ≤ w2.heap.size := Nat.le_trans hzW hb.size
      have hbW2 : Below w1.heap.size w1 w2 := hbW.trans (hb.mono (by omega))
      clear hb
      go_wp2_with fail
      go_roundg (zs.length - (q + 1))
      case measure => omega
      case rel => exact ⟨q + 1, cat (cat x y) v, rfl, by omega, by go_num, rfl, by rw [cat_len, cat_len]; omega, HW2, hzW2, hbW2⟩
    have B2 := Lib.hid (B1.out.trans (hbW.mono B1.out.size))
    clear hbW hzW HW HS1 HT1 B1 HZ8 HY8
    go_wp2_with fail
    refine (qparse_any (str x) _ (HE.out.up B2.out)).mono ?_
    rintro e w2 ⟨rfl, hb⟩
    have B3 := Lib.hid (B2.out.trans (hb.mono B2.out.size))
    have Q2 := Lib.hid (Zbox w2)
    clear hb
    go_wp2_with (first | (refine wpList_storeQ (q' := parseQ (bytes (str x))) rfl _ _ rfl rfl rfl Q2.out ?_; intro w3 hz1 hz2))
    have B4 := Lib.hid (read_keep B3.out hz2)
    refine (rqparse_any (str x) w3 (HE.out.up B4.out)).mono ?_
    rintro e w4 ⟨rfl, hb⟩
    have B5 := Lib.hid (B4.out.trans (hb.mono B4.out.size))
    have Q3 := Lib.hid (hz1.below hb (blk_lt hz1))
    have Q4 := Lib.hid (Zbox w4)
    clear hb hz1 hz2
    go_wp2_with (first | (refine wpList_storeQ (q' := parseQ (bytes (str x))) rfl _ _ rfl rfl rfl Q4.out ?_; intro w5 hy1 hy2; have Q5 := other_keep Q3.out hy2) | (refine wpList_loadQ rfl _ rfl rfl Q5 ?_) | (refine wpList_loadQ rfl _ rfl rfl hy1 ?_) | (refine wpList_eqQ (q := parseQ (bytes (str x))) rfl _ _ rfl rfl rfl ?_))
    go_ret
    exact ⟨rfl, read_keep B5.out hy2⟩
end Go.Proofs.YtnhemjdmleilcaaDoor
