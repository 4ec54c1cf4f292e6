/- The walks of the laws ScanTokens and ScanLong. No condition. -/
import Derived.Test.YtiakkcipbpbkbaaTokE
import Derived.Laws.IdiomStrings
namespace Go.Proofs.Ytiakkcipbpbkbaa
open Go.RowKit

theorem tokens_same {xs : List (Int × List UInt8)} {v u : Value} {Z : Nat} {w : World} (hx : Slc w Z 2 v xs.length (xs.flatMap tokCells)) (hy : Slc w Z 2 u xs.length (xs.flatMap tokCells)) :
    Calls Try.prog 26 #[v, u] w fun e w' => e = .returned (.bool true) ∧ Below w.heap.size w w' := by
  obtain ⟨A, c, rfl⟩ := slc_form hx
  obtain ⟨B, d, rfl⟩ := slc_form hy
  refine (tokeq_any A B _ _ c d Z xs xs w hx hy rfl rfl).mono ?_
  rintro e w' ⟨rfl, q, rfl⟩
  exact ⟨ret_bool (by simp), drewN_below w q⟩

set_option maxHeartbeats 400000 in
theorem scanTokens_walk (s : ByteArray) (w : World) (_ : s.size ≤ maxLen) : Calls Try.prog 11 #[.string s] w fun e w' => e = .returned (.bool true) ∧ Below w.heap.size w w' := by
  by_cases h : 3000 < s.size
  · go_enter Try.func11, Try.ntmps11
    go_wp2_with fail
    go_ret
    exact ⟨rfl, Below.refl _ _⟩
  · have d1 : decide ((3000 : Int) < s.size) = false := by simp; omega
    go_enter Try.func11, Try.ntmps11
    go_wp2_with fail
    refine (tokens_any _ _).mono ?_
    rintro e w1 ⟨v1, rfl, ho1, hb1⟩
    go_wp2_with fail
    refine (rtokens_any _ _).mono ?_
    rintro e w2 ⟨v2, rfl, ho2, hb2⟩
    go_wp2_with fail
    refine (tokens_same (((Slc.of_own ho1).below hb2).mono hb2.size) (Slc.of_own ho2)).mono ?_
    rintro e w3 ⟨rfl, hb3⟩
    go_wp2_with fail
    refine (sane1_any _).mono ?_
    rintro e w4 ⟨rfl, hb4⟩
    go_wp2_with fail
    go_ret
    have h1 := hb1.size
    have h2 := hb2.size
    have h3 := hb3.size
    exact ⟨rfl, ((hb1.trans (hb2.mono (by omega))).trans (hb3.mono (by omega))).trans (hb4.mono (by omega))⟩

theorem Try.byteInfo : (Try.prog.info? 5).map (fun i => (i.zero, i.size, i.bytes)) = some (some (.int .u8 0), 1, 1) := by kernel_rfl
/-- n bytes, the first k of them blanks. -/
def blanks (n k : Nat) : List Value := List.replicate k (Value.int .u8 32) ++ List.replicate (n - k) (Value.int .u8 0)
theorem blanks_set {n k : Nat} (h : k < n) : (blanks n k).set k (.int .u8 32) = blanks n (k + 1) := by
  unfold blanks
  rw [List.set_append_right _ _ (by simp), List.length_replicate, Nat.sub_self, show n - k = (n - (k + 1)) + 1 from by omega, List.replicate_succ, List.set_cons_zero, List.replicate_succ', List.append_assoc]
  rfl
def sp (n : Nat) : List UInt8 := List.replicate n 32
theorem sp_valid (n : Nat) : validAll (sp n) = true := by
  unfold validAll sp
  rw [List.all_replicate]
  split <;> rfl
theorem sp_go : ∀ (n : Nat) (cur : List UInt8), linesGo cur (sp n) = flush (cur ++ sp n) := by
  intro n
  induction n with
  | zero => intro cur; simp [sp, linesGo]
  | succ n ih =>
    intro cur
    unfold sp at *
    rw [List.replicate_succ, linesGo, if_neg (by decide), ih]
    simp
theorem sp_lines (n : Nat) : linesOf (sp n) = if n = 0 then [] else [sp n] := by
  unfold linesOf
  rw [sp_go, List.nil_append, flush]
  cases n with
  | zero => rfl
  | succ n => simp [sp, List.replicate_succ]
theorem sp_len (n : Nat) : (sp n).length = n := by simp [sp]
theorem sp_long {n : Nat} (h : 65536 < n) : linesErr (sp n) = 7 ∧ linesRes (sp n) = [] := by
  have e : linesErr (sp n) = 7 := by unfold linesErr; rw [sp_len, if_pos h]
  exact ⟨e, by unfold linesRes; rw [e, if_neg (by decide)]⟩
theorem tokens_known (s : ByteArray) (w : World) (k : Int) (c : Nat) (he : linesErr (bytes s) = k) (hx : (linesRes (bytes s)).length = c) : Calls Try.prog 24 #[.string s] w fun e w' =>
    ∃ v, e = .returned (.tuple #[v, .int .i64 c, .int .i64 k]) ∧ Below w.heap.size w w' := by
  subst he hx
  refine (tokens_any s w).mono ?_
  rintro e w' ⟨v, rfl, _, hb⟩
  exact ⟨v, rfl, hb⟩

set_option maxHeartbeats 1000000 in
theorem scanLong_walk (n : Int) (w : World) (_ : (Lit.int .i64 n).wf = true) : Calls Try.prog 10 #[.int .i64 n] w fun e w' => e = .returned (.bool true) ∧ Below w.heap.size w w' := by
  by_cases h0 : n < 0
  · go_enter Try.func10, Try.ntmps10
    go_wp2_with fail
    go_ret
    exact ⟨rfl, Below.refl _ _⟩
  by_cases h1 : 70000 < n
  · go_enter Try.func10, Try.ntmps10
    go_wp2_with fail
    go_ret
    exact ⟨rfl, Below.refl _ _⟩
  obtain ⟨m, rfl⟩ := Int.eq_ofNat_of_zero_le (Int.not_lt.1 h0)
  have hm : m ≤ 70000 := by omega
  have d0 : decide ((m : Int) < 0) = false := by simp
  have d1 : decide ((70000 : Int) < m) = false := by simp; omega
  clear h0 h1
  obtain ⟨i0, hi0, hz0, hz1, hz2⟩ := info_parts Try.byteInfo
  have Hi0 := Lib.hid hi0
  have Hz0 := Lib.hid hz0
  have Hz1 := Lib.hid hz1
  have hby : i0.bytes * m ≤ 281474976710656 := by rw [hz2]; omega
  clear hi0 hz0 hz1 hz2
  go_enter Try.func10, Try.ntmps10
  go_wp2_with (first | (at_make; refine wpList_make_full w rfl _ _ 38 rfl w.heap.size 5 i0 _ 1 Try.underlying38 Hi0.out Hz0.out Hz1.out .i64 .i64 _ _ m rfl rfl rfl rfl hby (by unfold maxLen; omega) (Nat.le_refl _) ?_; intro w1 ho1 hg1))
  have HO : Hid (w1.ownsRow w.heap.size 5 1 (.slice (some ⟨w.heap.size, 0, none⟩) m m) m (blanks m 0)) := Lib.hid (by
    have e : (madeCells (Value.int .u8 0).cells (m * 1)).toList = blanks m 0 := by
      have h1 : (Value.int IntKind.u8 0).cells = #[Value.int IntKind.u8 0] := rfl
      rw [h1, toList_madeCells_one]; simp [blanks]
    rw [e] at ho1; exact ho1)
  have hb1 : Below w.heap.size w w1 := (Below.refl _ _).grown hg1 (Nat.le_refl _) (fun k hk => by cases hk)
  clear ho1 hg1 hby
  go_loopg [4] m (fun g i wr => ∃ k : Nat, k + g = m ∧ i = .int .i64 k ∧ Hid (wr.ownsRow w.heap.size 5 1 (.slice (some ⟨w.heap.size, 0, none⟩) m m) m (blanks m k)) ∧ Below w.heap.size w wr)
  case atStart => exact ⟨0, by omega, rfl, HO, hb1⟩
  case round =>
    clear HO hb1
    obtain ⟨k, hk, rfl, HO, hb⟩ := hrel
    by_cases hlt : k < m
    · have c1 : wr.cell? ⟨w.heap.size, k, none⟩ = some (.int .u8 0) := by
        rw [HO.out.cellAt k (by omega)]
        unfold blanks
        rw [List.getElem?_append_right (by simp)]
        simp [List.getElem?_replicate]; omega
      have f1 : wr.frozen? ⟨w.heap.size, k, none⟩ = false := HO.out.frozenAt k
      have HN := Lib.hid (HO.out.stored k (.int .u8 32)).1
      rw [blanks_set hlt] at HN
      go_wp2_with fail
      go_roundg (m - (k + 1))
      case measure => omega
      case rel => exact ⟨k + 1, by omega, by go_num, HN, hb.setCell (by simp) _⟩
    · have hkm : k = m := by omega
      subst hkm
      have hcell : ∀ j, j < k → wr.cell? ⟨w.heap.size, j, none⟩ = some (.int .u8 32) := fun j hj => by
        rw [HO.out.cellAt j (by omega)]
        unfold blanks
        rw [List.getElem?_append_left (by simpa using hj)]
        simp [hj]
      have HC : Hid (∀ w', Below wr.heap.size wr w' → (convert 38 9 (.slice (some ⟨w.heap.size, 0, none⟩) k k)).run Try.prog w' = .ok (.string (str (sp k))) w') := Lib.hid (fun w' hb' => by
        have := run_convert_bytes_back (P := Try.prog) w' 38 9 5 ⟨w.heap.size, 0, none⟩ k (sp k) Try.underlying38 Try.underlying5 Try.underlying9 (fun j hj => by
          rw [sp_len] at hj
          have h1 := hcell j hj
          rw [addr_add, Nat.zero_add, hb'.cell (p := ⟨w.heap.size, j, none⟩) (World.block_lt_of_cell? wr _ h1), h1]
          simp [sp])
        rw [sp_len] at this
        exact this)
      clear hcell
      clear HO
      have hsz := hb.size
      have hc1 := HC.out wr (Below.refl _ _)
      by_cases hbig : 65536 < k
      · have d2 : decide ((65536 : Int) < k) = true := by simp; omega
        have E := Lib.hid (sp_long hbig)
        go_wp2_with fail
        refine (lines_known _ _ 7 [] (by rw [bytes_str]; exact E.out.1) (by rw [bytes_str]; exact E.out.2)).mono ?_
        rintro e w2 ⟨v2, rfl, _, hb2⟩
        clear hc1
        have hc2 := HC.out w2 hb2
        go_wp2_with fail
        refine (tokens_known _ _ 7 0 (by rw [bytes_str]; exact E.out.1) (by rw [bytes_str, E.out.2]; rfl)).mono ?_
        rintro e w3 ⟨v3, rfl, hb3⟩
        clear hc2
        go_wp2_with fail
        go_ret
        have h2 := hb2.size
        exact ⟨rfl, (hb.trans (hb2.mono (by omega))).trans (hb3.mono (by omega))⟩
      · have d2 : decide ((65536 : Int) < k) = false := by simp; omega
        have E := Lib.hid (res_ok (l := sp k) (by rw [sp_len]; omega) (sp_valid k))
        have hz : ∃ c : Nat, (linesOf (sp k)).length = c ∧ (((c : Int) == 0) == ((k : Int) == 0)) = true := by
          refine ⟨_, rfl, ?_⟩
          rw [sp_lines]
          by_cases h : k = 0
          · simp [h]
          · simp [h]
        obtain ⟨c, hc, hcc⟩ := hz
        have HCC := Lib.hid hc
        clear hc
        go_wp2_with fail
        refine (lines_known _ _ 0 _ (by rw [bytes_str]; exact E.out.1) rfl).mono ?_
        rintro e w2 ⟨v2, rfl, _, hb2⟩
        clear hc1
        have hc2 := HC.out w2 hb2
        go_wp2_with fail
        refine (tokens_known _ _ 0 c (by rw [bytes_str]; exact E.out.1) (by rw [bytes_str, E.out.2]; exact HCC.out)).mono ?_
        rintro e w3 ⟨v3, rfl, hb3⟩
        clear hc2
        go_wp2_with fail
        refine (sane1_any _).mono ?_
        rintro e w4 ⟨rfl, hb4⟩
        go_wp2_with fail
        go_ret
        have h2 := hb2.size
        have h3 := hb3.size
        exact ⟨rfl, ((hb.trans (hb2.mono (by omega))).trans (hb3.mono (by omega))).trans (hb4.mono (by omega))⟩
end Go.Proofs.Ytiakkcipbpbkbaa
