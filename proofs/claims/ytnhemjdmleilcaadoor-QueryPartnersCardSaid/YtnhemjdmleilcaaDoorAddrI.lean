/- The walks of the reference's Host and ReadPrefix, of ParsePrefix, Halves and of the reference's Compare. Conditions: as before. -/
import Derived.Test.YtnhemjdmleilcaaDoorAddrH
namespace Go.Proofs.YtnhemjdmleilcaaDoor
open Go.RowKit

theorem occ_slash (s : ByteArray) (j : Nat) (h : j < s.size) : Lib.occAt (bytes s) [47] j = ((s[j].toNat : Int) == 47) := by
  unfold Lib.occAt
  rw [drop_step s j h]
  simp only [List.isPrefixOf, Bool.and_true]
  rw [Bool.eq_iff_iff]
  simp only [beq_iff_eq]
  constructor
  · intro e; rw [← e]; rfl
  · intro e
    apply UInt8.toNat_inj.1
    show 47 = s[j].toNat
    omega
theorem occ_end (s : ByteArray) (j : Nat) (h : ¬ j < s.size) : Lib.occAt (bytes s) [47] j = false := by
  unfold Lib.occAt; rw [drop_end s j h]; rfl
theorem slash_at {s : ByteArray} {k : Nat} (h : k < s.size) (hk : ((s[k].toNat : Int) == 47) = true) (hn : ∀ j, j < k → Lib.occAt (bytes s) [47] j = false) : Lib.index (bytes s) [47] = k :=
  Lib.index_first (by rw [bytes_len]; omega) (by rw [occ_slash s k h]; exact hk) hn
theorem slash_none {s : ByteArray} {k : Nat} (h : ¬ k < s.size) (hn : ∀ j, j < k → Lib.occAt (bytes s) [47] j = false) : Lib.index (bytes s) [47] = -1 :=
  Lib.index_none (fun j hj => by
    by_cases hjk : j < k
    · exact hn j hjk
    · exact occ_end s j (by omega))
theorem slash_step {s : ByteArray} {k : Nat} (h : k < s.size) (hk : ((s[k].toNat : Int) == 47) = false) (hn : ∀ j, j < k → Lib.occAt (bytes s) [47] j = false) : ∀ j, j < k + 1 → Lib.occAt (bytes s) [47] j = false := fun j hj => by
  by_cases hjk : j < k
  · exact hn j hjk
  · have e : j = k := by omega
    subst e
    rw [occ_slash s j h]; exact hk
theorem sub_take (l : List UInt8) (k : Nat) : sub l 0 k = l.take k := by simp [sub]
theorem sub_drop (s : ByteArray) (k : Nat) : sub (bytes s) k s.size = (bytes s).drop k := by
  unfold sub; rw [List.take_of_length_le (by rw [List.length_drop, bytes_len]; omega)]
theorem bytes_front (s : ByteArray) (k : Nat) : bytes (s.extract 0 k) = (bytes s).take k := by rw [ext_eq, bytes_str, sub_take]
theorem bytes_back (s : ByteArray) (k : Nat) : bytes (s.extract k s.size) = (bytes s).drop k := by rw [ext_eq, bytes_str, sub_drop]
theorem ext_small {s : ByteArray} {a b n : Nat} (h : s.size ≤ n) : (s.extract a b).size ≤ n := by
  rw [ext_eq, str_size]; simp only [sub, List.length_take, List.length_drop, bytes_len]; omega

set_option maxRecDepth 4000 in
set_option maxHeartbeats 2000000 in
theorem rhost_any (s : ByteArray) (w : World) (hs : s.size ≤ 1000000000) : Calls Tryd.prog 88 #[.string s] w (HostPost (hostA (bytes s)) w) := by
  go_enter Tryd.func88, Tryd.ntmps88
  go_wp2_with fail
  go_loopg [5] s.size (fun g i wr => ∃ k : Nat, k + g = s.size ∧ i = .int .i64 k ∧ wr = w ∧ Hid (∀ j, j < k → Lib.occAt (bytes s) [47] j = false))
  case atStart => exact ⟨0, by omega, rfl, rfl, Lib.hid (fun j hj => by omega)⟩
  case round =>
    obtain ⟨k, hk, rfl, ew, H⟩ := hrel
    subst ew
    by_cases hlt : k < s.size
    · cases hc : ((s[k].toNat : Int) == 47) with
      | false =>
        have HN := Lib.hid (slash_step hlt hc H.out)
        go_wp2_with fail
        go_roundg (s.size - (k + 1))
        case measure => omega
        case rel => exact ⟨k + 1, by omega, by go_num, rfl, HN⟩
      | true =>
        have HI := Lib.hid (slash_at hlt hc H.out)
        have s1 := ext_small (s := s) (a := 0) (b := k) hs
        clear H
        cases hp : parseA ((bytes s).take k) with
        | none =>
          have HP := Lib.hid hp
          have HF := Lib.hid (host_no1 HI.out hp)
          clear hp
          cases hn : numIn ((bytes s).drop (k + 1)) 0 32 with
          | none =>
            have HN := Lib.hid hn
            clear hn
            go_wp2_with fail
            refine (rparse_none (by rw [bytes_front]; exact HP.out) _ s1).mono ?_
            rintro e w2 ⟨rfl, hb2⟩
            go_wp2_with fail
            refine (rnumber_none (by rw [bytes_back]; exact HN.out) _).mono ?_
            rintro e w' ⟨rfl, rfl⟩
            go_wp2_with fail
            go_ret3
            exact hostPost_none HF.out hb2
          | some n =>
            have HN := Lib.hid hn
            clear hn
            go_wp2_with fail
            refine (rparse_none (by rw [bytes_front]; exact HP.out) _ s1).mono ?_
            rintro e w2 ⟨rfl, hb2⟩
            go_wp2_with fail
            refine (rnumber_some (by rw [bytes_back]; exact HN.out) _).mono ?_
            rintro e w' ⟨rfl, rfl⟩
            go_wp2_with fail
            go_ret3
            exact hostPost_none HF.out hb2
        | some a =>
          have HP := Lib.hid hp
          clear hp
          cases hn : numIn ((bytes s).drop (k + 1)) 0 32 with
          | none =>
            have HN := Lib.hid hn
            have HF := Lib.hid (host_no2 HI.out hn)
            clear hn
            go_wp2_with fail
            refine (rparse_some (by rw [bytes_front]; exact HP.out) _ s1).mono ?_
            rintro e w2 ⟨rfl, hb2⟩
            go_wp2_with fail
            refine (rnumber_none (by rw [bytes_back]; exact HN.out) _).mono ?_
            rintro e w' ⟨rfl, rfl⟩
            go_wp2_with fail
            go_ret3
            exact hostPost_none HF.out hb2
          | some n =>
            have HN := Lib.hid hn
            have HF := Lib.hid (host_yes HI.out HP.out hn)
            clear hn
            go_wp2_with fail
            refine (rparse_some (by rw [bytes_front]; exact HP.out) _ s1).mono ?_
            rintro e w2 ⟨rfl, hb2⟩
            go_wp2_with fail
            refine (rnumber_some (by rw [bytes_back]; exact HN.out) _).mono ?_
            rintro e w' ⟨rfl, rfl⟩
            go_wp2_with fail
            go_ret3
            exact hostPost_some HF.out hb2
    · have HF := Lib.hid (host_miss (slash_none hlt H.out))
      go_wp2_with fail
      go_ret3
      exact hostPost_none HF.out (Below.refl _ _)

def pfxA (l : List UInt8) : Option (Nat × Int) := match hostA l with
  | none => none
  | some (a, n) => if validP a n then some (a, n) else none
def PfxPost (o : Option (Nat × Int)) (w : World) (e : Ending) (w' : World) : Prop :=
  e = .returned (.tuple #[PV (o.getD (0, 0)).1 (o.getD (0, 0)).2, .bool o.isSome]) ∧ Below w.heap.size w w'
theorem hostA_lt {l : List UInt8} {a : Nat} {n : Int} (h : hostA l = some (a, n)) : a < 4294967296 ∧ 0 ≤ n ∧ n ≤ 32 := by
  unfold hostA at h
  split at h
  · cases hp : parseA (l.take (Lib.index l [47]).toNat) with
    | none => simp [hp] at h
    | some b =>
      cases hn : numIn (l.drop ((Lib.index l [47]).toNat + 1)) 0 32 with
      | none => simp [hp, hn] at h
      | some m =>
        simp only [hp, hn, Option.some.injEq, Prod.mk.injEq] at h
        obtain ⟨rfl, rfl⟩ := h
        exact ⟨parseA_lt hp, numIn_bd hn⟩
  · cases h
theorem host_none {s : ByteArray} (h : hostA (bytes s) = none) {w w' : World} {e : Ending} (hp : HostPost (hostA (bytes s)) w e w') : e = .returned (.tuple #[.int .u32 0, .int .i64 0, .bool false]) ∧ Below w.heap.size w w' := by
  rw [h] at hp; exact hp
theorem host_some {s : ByteArray} {a : Nat} {n : Int} (h : hostA (bytes s) = some (a, n)) {w w' : World} {e : Ending} (hp : HostPost (hostA (bytes s)) w e w') : e = .returned (.tuple #[.int .u32 (a : Int), .int .i64 n, .bool true]) ∧ Below w.heap.size w w' := by
  rw [h] at hp; exact hp

/-- The box of a result that is a prefix, behind a call. -/
theorem res_box {w w1 : World} {a b : Value} {t : TypeId} (hb1 : Below (w.alloc (.cells #[a, b] t)).heap.size (w.alloc (.cells #[a, b] t)) w1) :
    Below w.heap.size w w1 ∧ w.heap.size + 1 ≤ w1.heap.size ∧ w1.cell? ⟨w.heap.size, 0, none⟩ = some a ∧ w1.cell? ⟨w.heap.size, 1, none⟩ = some b ∧ ∀ j, w1.frozen? ⟨w.heap.size, j, none⟩ = false := by
  refine ⟨((Below.refl _ w).alloc (Nat.le_refl _) _).trans (hb1.mono (by simp)), by have := hb1.size; simpa using this, ?_, ?_, fun j => ?_⟩
  · rw [hb1.cell (p := ⟨w.heap.size, 0, none⟩) (by simp), new_cell]; rfl
  · rw [hb1.cell (p := ⟨w.heap.size, 1, none⟩) (by simp), new_cell]; rfl
  · rw [hb1.frozen (p := ⟨w.heap.size, j, none⟩) (by simp)]; exact World.frozen?_alloc_at _ _ _ _ rfl
theorem cell_alloc' {w1 : World} {b j : Nat} {v : Value} (hz : b + 1 ≤ w1.heap.size) (h : w1.cell? ⟨b, j, none⟩ = some v) : ∀ o, (w1.alloc o).cell? ⟨b, j, none⟩ = some v := fun o => (World.cell?_alloc_lt w1 o ⟨b, j, none⟩ (by show b < _; omega)).trans h
theorem frozen_alloc' {w1 : World} {b : Nat} (hz : b + 1 ≤ w1.heap.size) (h : ∀ j, w1.frozen? ⟨b, j, none⟩ = false) : ∀ o j, (w1.alloc o).frozen? ⟨b, j, none⟩ = false := fun o j => (World.frozen?_alloc_old _ _ _ (by show b ≠ _; omega)).trans (h j)
set_option maxRecDepth 4000 in
set_option maxHeartbeats 2000000 in
theorem parsePrefix_any (s : ByteArray) (w : World) (he : Env w) (hs : s.size ≤ 1000000000) : Calls Tryd.prog 86 #[.string s] w (PfxPost (pfxA (bytes s)) w) := by
  have HH := Lib.hid (fun w => fun he => parseHost_any s w he hs)
  have HE := Lib.hid he
  clear he
  cases h : hostA (bytes s) with
  | none =>
    have HF : Hid (pfxA (bytes s) = none) := Lib.hid (by unfold pfxA; rw [h])
    have H := Lib.hid h
    clear h
    go_enter Tryd.func86, Tryd.ntmps86
    go_wp2_with fail
    refine (HH.out _ (HE.out.below ((Below.refl _ w).alloc (Nat.le_refl _) _))).mono ?_
    intro e w1 hpost
    obtain ⟨rfl, hb1⟩ := host_none H.out hpost
    clear hpost
    obtain ⟨hb, hz, c0, c1, f0⟩ := res_box hb1
    clear hb1
    have c0' := cell_alloc' hz c0
    have c1' := cell_alloc' hz c1
    have f0' := frozen_alloc' hz f0
    go_wp2_with fail
    refine bodyPost_ret (v := .tuple #[PV 0 0, .bool false]) (by simp [results, Tryd.results86, go_sem, PV, *]) rfl ⟨by rw [HF.out]; rfl, ?_⟩
    exact ((hb.alloc hb.size _).setCell (Nat.le_refl _) _).setCell (Nat.le_refl _) _
  | some r =>
    obtain ⟨a, n⟩ := r
    obtain ⟨ha, _, _⟩ := hostA_lt h
    have H := Lib.hid h
    have HV := Lib.hid (fun w => valid_any a n w ha)
    unfold PV at HV
    cases hv : validP a n with
    | false =>
      have HF : Hid (pfxA (bytes s) = none) := Lib.hid (by unfold pfxA; rw [h]; simp [hv])
      clear h
      go_enter Tryd.func86, Tryd.ntmps86
      go_wp2_with fail
      refine (HH.out _ (HE.out.below ((Below.refl _ w).alloc (Nat.le_refl _) _))).mono ?_
      intro e w1 hpost
      obtain ⟨rfl, hb1⟩ := host_some H.out hpost
      clear hpost
      obtain ⟨hb, hz, c0, c1, f0⟩ := res_box hb1
      clear hb1
      have c0' := cell_alloc' hz c0
      have c1' := cell_alloc' hz c1
      have f0' := frozen_alloc' hz f0
      go_wp2_with fail
      refine (HV.out _).mono ?_
      rintro e w2 ⟨rfl, hb2⟩
      have hz2 : w1.heap.size + 1 ≤ w2.heap.size := by have := hb2.size; simpa using this
      have hb3 : Below w.heap.size w w2 := (hb.alloc hb.size _).trans (hb2.mono (by simp; omega))
      have c0'' := (hb2.cell (p := ⟨w.heap.size, 0, none⟩) (by simp; omega)).trans (c0' _)
      have c1'' := (hb2.cell (p := ⟨w.heap.size, 1, none⟩) (by simp; omega)).trans (c1' _)
      have f0'' : ∀ j, w2.frozen? ⟨w.heap.size, j, none⟩ = false := fun j => (hb2.frozen (p := ⟨w.heap.size, j, none⟩) (by simp; omega)).trans (f0' _ j)
      clear hb2 c0 c1 f0 c0' c1' f0'
      go_wp2_with fail
      refine bodyPost_ret (v := .tuple #[PV 0 0, .bool false]) (by simp [results, Tryd.results86, go_sem, PV, *]) rfl ⟨by rw [HF.out]; rfl, ?_⟩
      exact (hb3.setCell (Nat.le_refl _) _).setCell (Nat.le_refl _) _
    | true =>
      have HF : Hid (pfxA (bytes s) = some (a, n)) := Lib.hid (by unfold pfxA; rw [h]; simp [hv])
      clear h
      go_enter Tryd.func86, Tryd.ntmps86
      go_wp2_with fail
      refine (HH.out _ (HE.out.below ((Below.refl _ w).alloc (Nat.le_refl _) _))).mono ?_
      intro e w1 hpost
      obtain ⟨rfl, hb1⟩ := host_some H.out hpost
      clear hpost
      obtain ⟨hb, hz, c0, c1, f0⟩ := res_box hb1
      clear hb1
      have c0' := cell_alloc' hz c0
      have c1' := cell_alloc' hz c1
      have f0' := frozen_alloc' hz f0
      go_wp2_with fail
      refine (HV.out _).mono ?_
      rintro e w2 ⟨rfl, hb2⟩
      have hz2 : w1.heap.size + 1 ≤ w2.heap.size := by have := hb2.size; simpa using this
      have hb3 : Below w.heap.size w w2 := (hb.alloc hb.size _).trans (hb2.mono (by simp; omega))
      have c0'' := (hb2.cell (p := ⟨w.heap.size, 0, none⟩) (by simp; omega)).trans (c0' _)
      have c1'' := (hb2.cell (p := ⟨w.heap.size, 1, none⟩) (by simp; omega)).trans (c1' _)
      have f0'' : ∀ j, w2.frozen? ⟨w.heap.size, j, none⟩ = false := fun j => (hb2.frozen (p := ⟨w.heap.size, j, none⟩) (by simp; omega)).trans (f0' _ j)
      have b0 : w2.cell? ⟨w1.heap.size, 0, none⟩ = some (.int .u32 (a : Int)) := by rw [hb2.cell (p := ⟨w1.heap.size, 0, none⟩) (by simp), new_cell]; rfl
      have b1 : w2.cell? ⟨w1.heap.size, 1, none⟩ = some (.int .i64 n) := by rw [hb2.cell (p := ⟨w1.heap.size, 1, none⟩) (by simp), new_cell]; rfl
      clear hb2 c0 c1 f0 c0' c1' f0'
      go_wp2_with fail
      refine bodyPost_ret (v := .tuple #[PV a n, .bool true]) (by simp [results, Tryd.results86, go_sem, PV, *]) rfl ⟨by rw [HF.out]; rfl, ?_⟩
      exact (hb3.setCell (Nat.le_refl _) _).setCell (Nat.le_refl _) _

set_option maxRecDepth 4000 in
set_option maxHeartbeats 2000000 in
theorem readPrefix_any (s : ByteArray) (w : World) (hs : s.size ≤ 1000000000) : Calls Tryd.prog 80 #[.string s] w (PfxPost (pfxA (bytes s)) w) := by
  have HH := Lib.hid (fun w => rhost_any s w hs)
  skip
  cases h : hostA (bytes s) with
  | none =>
    have HF : Hid (pfxA (bytes s) = none) := Lib.hid (by unfold pfxA; rw [h])
    have H := Lib.hid h
    clear h
    go_enter Tryd.func80, Tryd.ntmps80
    go_wp2_with fail
    refine (HH.out _).mono ?_
    intro e w1 hpost
    obtain ⟨rfl, hb1⟩ := host_none H.out hpost
    clear hpost
    obtain ⟨hb, hz, c0, c1, f0⟩ := res_box hb1
    clear hb1
    have c0' := cell_alloc' hz c0
    have c1' := cell_alloc' hz c1
    have f0' := frozen_alloc' hz f0
    go_wp2_with fail
    refine bodyPost_ret (v := .tuple #[PV 0 0, .bool false]) (by simp [results, Tryd.results80, go_sem, PV, *]) rfl ⟨by rw [HF.out]; rfl, ?_⟩
    exact ((hb.alloc hb.size _).setCell (Nat.le_refl _) _).setCell (Nat.le_refl _) _
  | some r =>
    obtain ⟨a, n⟩ := r
    obtain ⟨ha, _, _⟩ := hostA_lt h
    have H := Lib.hid h
    have HV := Lib.hid (fun w => rvalid_any a n w ha)
    unfold PV at HV
    cases hv : validP a n with
    | false =>
      have HF : Hid (pfxA (bytes s) = none) := Lib.hid (by unfold pfxA; rw [h]; simp [hv])
      clear h
      go_enter Tryd.func80, Tryd.ntmps80
      go_wp2_with fail
      refine (HH.out _).mono ?_
      intro e w1 hpost
      obtain ⟨rfl, hb1⟩ := host_some H.out hpost
      clear hpost
      obtain ⟨hb, hz, c0, c1, f0⟩ := res_box hb1
      clear hb1
      have c0' := cell_alloc' hz c0
      have c1' := cell_alloc' hz c1
      have f0' := frozen_alloc' hz f0
      go_wp2_with fail
      refine (HV.out _).mono ?_
      rintro e w2 ⟨rfl, hb2⟩
      have hz2 : w1.heap.size + 1 ≤ w2.heap.size := by have := hb2.size; simpa using this
      have hb3 : Below w.heap.size w w2 := (hb.alloc hb.size _).trans (hb2.mono (by simp; omega))
      have c0'' := (hb2.cell (p := ⟨w.heap.size, 0, none⟩) (by simp; omega)).trans (c0' _)
      have c1'' := (hb2.cell (p := ⟨w.heap.size, 1, none⟩) (by simp; omega)).trans (c1' _)
      have f0'' : ∀ j, w2.frozen? ⟨w.heap.size, j, none⟩ = false := fun j => (hb2.frozen (p := ⟨w.heap.size, j, none⟩) (by simp; omega)).trans (f0' _ j)
      clear hb2 c0 c1 f0 c0' c1' f0'
      go_wp2_with fail
      refine bodyPost_ret (v := .tuple #[PV 0 0, .bool false]) (by simp [results, Tryd.results80, go_sem, PV, *]) rfl ⟨by rw [HF.out]; rfl, ?_⟩
      exact (hb3.setCell (Nat.le_refl _) _).setCell (Nat.le_refl _) _
    | true =>
      have HF : Hid (pfxA (bytes s) = some (a, n)) := Lib.hid (by unfold pfxA; rw [h]; simp [hv])
      clear h
      go_enter Tryd.func80, Tryd.ntmps80
      go_wp2_with fail
      refine (HH.out _).mono ?_
      intro e w1 hpost
      obtain ⟨rfl, hb1⟩ := host_some H.out hpost
      clear hpost
      obtain ⟨hb, hz, c0, c1, f0⟩ := res_box hb1
      clear hb1
      have c0' := cell_alloc' hz c0
      have c1' := cell_alloc' hz c1
      have f0' := frozen_alloc' hz f0
      go_wp2_with fail
      refine (HV.out _).mono ?_
      rintro e w2 ⟨rfl, hb2⟩
      have hz2 : w1.heap.size + 1 ≤ w2.heap.size := by have := hb2.size; simpa using this
      have hb3 : Below w.heap.size w w2 := (hb.alloc hb.size _).trans (hb2.mono (by simp; omega))
      have c0'' := (hb2.cell (p := ⟨w.heap.size, 0, none⟩) (by simp; omega)).trans (c0' _)
      have c1'' := (hb2.cell (p := ⟨w.heap.size, 1, none⟩) (by simp; omega)).trans (c1' _)
      have f0'' : ∀ j, w2.frozen? ⟨w.heap.size, j, none⟩ = false := fun j => (hb2.frozen (p := ⟨w.heap.size, j, none⟩) (by simp; omega)).trans (f0' _ j)
      have b0 : w2.cell? ⟨w1.heap.size, 0, none⟩ = some (.int .u32 (a : Int)) := by rw [hb2.cell (p := ⟨w1.heap.size, 0, none⟩) (by simp), new_cell]; rfl
      have b1 : w2.cell? ⟨w1.heap.size, 1, none⟩ = some (.int .i64 n) := by rw [hb2.cell (p := ⟨w1.heap.size, 1, none⟩) (by simp), new_cell]; rfl
      clear hb2 c0 c1 f0 c0' c1' f0'
      go_wp2_with fail
      refine bodyPost_ret (v := .tuple #[PV a n, .bool true]) (by simp [results, Tryd.results80, go_sem, PV, *]) rfl ⟨by rw [HF.out]; rfl, ?_⟩
      exact (hb3.setCell (Nat.le_refl _) _).setCell (Nat.le_refl _) _

end Go.Proofs.YtnhemjdmleilcaaDoor
