/- Queries as data, the error of a query, the parser as a state (fields left, failed), what Parse reads: plain functions on lists of bytes. No condition. -/
import Derived.Test.YtoceoaiokkbjeaaGreatDoorWg
set_option maxHeartbeats 2000000
namespace Go.Proofs.YtoceoaiokkbjeaaGreatDoor
open Lib (hid)
open Go.RowKit
def hostA (l : List UInt8) : Option (Nat × Int) :=
 if 0 ≤ Lib.index l [47] then
  match zCe (l.take (Lib.index l [47]).toNat), numIn (l.drop ((Lib.index l [47]).toNat + 1)) 0 32 with
  | some a, some n => some (a, n)
  | _, _ => none
 else none
def zGt (o : Option (Nat × Int)) (w : World) (e : Ending) (w' : World) : Prop :=
 e = .returned (.tuple #[.int .u32 (((o.getD (0, 0)).1 : Nat) : Int), .int .i64 (o.getD (0, 0)).2, .bool o.isSome]) ∧ Below w.heap.size w w'
theorem zGs {o : Option (Nat × Int)} {w w' : World} (h : o = none) (hb : Below w.heap.size w w') : zGt o w (.returned (.tuple #[.int .u32 0, .int .i64 0, .bool false])) w' := by
 subst h; exact ⟨rfl, hb⟩
theorem hostPost_some {o : Option (Nat × Int)} {a : Nat} {n : Int} {w w' : World} (h : o = some (a, n)) (hb : Below w.heap.size w w') : zGt o w (.returned (.tuple #[.int .u32 (a : Int), .int .i64 n, .bool true])) w' := by
 subst h; exact ⟨rfl, hb⟩
theorem host_miss {l : List UInt8} (h : Lib.index l [47] = -1) : hostA l = none := by unfold hostA; rw [h]; rfl
theorem host_hit {l : List UInt8} {i : Nat} (h : Lib.index l [47] = i) : hostA l = match zCe (l.take i), numIn (l.drop (i + 1)) 0 32 with | some a, some n => some (a, n) | _, _ => none := by
 unfold hostA; rw [h, if_pos (by omega), Int.toNat_natCast]
theorem host_no1 {l : List UInt8} {i : Nat} (h : Lib.index l [47] = i) (hp : zCe (l.take i) = none) : hostA l = none := by rw [host_hit h, hp]
theorem host_no2 {l : List UInt8} {i : Nat} (h : Lib.index l [47] = i) (hn : numIn (l.drop (i + 1)) 0 32 = none) : hostA l = none := by
 rw [host_hit h, hn]; cases zCe (l.take i) <;> rfl
theorem host_yes {l : List UInt8} {i a : Nat} {n : Int} (h : Lib.index l [47] = i) (hp : zCe (l.take i) = some a) (hn : numIn (l.drop (i + 1)) 0 32 = some n) : hostA l = some (a, n) := by rw [host_hit h, hp, hn]
theorem index_cases (l : List UInt8) : Lib.index l [47] = -1 ∨ ∃ i : Nat, Lib.index l [47] = i := by
 have := Lib.index_ge l [47]
 by_cases h : Lib.index l [47] = -1
 ·exact .inl h
 ·exact .inr ⟨(Lib.index l [47]).toNat, by omega⟩
theorem parse_none {s : ByteArray} (h : zCe (bytes s) = none) (w : World) (he : Env w) (hs : s.size ≤ 1000000000) : Calls Tryz.prog 232 #[.string s] w fun e w' => e = .returned (.tuple #[.int .u32 0, .bool false]) ∧ Below w.heap.size w w' := by
 refine (parse_any s w he hs).mono ?_
 rw [h]
 rintro e w' ⟨rfl, hb⟩
 exact ⟨rfl, hb⟩
theorem zKf {s : ByteArray} {a : Nat} (h : zCe (bytes s) = some a) (w : World) (he : Env w) (hs : s.size ≤ 1000000000) : Calls Tryz.prog 232 #[.string s] w fun e w' => e = .returned (.tuple #[.int .u32 (a : Int), .bool true]) ∧ Below w.heap.size w w' := by
 refine (parse_any s w he hs).mono ?_
 rw [h]
 rintro e w' ⟨rfl, hb⟩
 exact ⟨rfl, hb⟩
theorem cut_hit {s : ByteArray} {i : Nat} (h : Lib.index (bytes s) [47] = i) (w : World) (he : Env w) (hs : s.size ≤ 1000000000) : Calls Tryz.prog 236 #[.string s, .string ⟨#[47]⟩] w fun e w' =>
  e = .returned (.tuple #[.string (str ((bytes s).take i)), .string (str ((bytes s).drop (i + 1))), .bool true]) ∧ Below w.heap.size w w' := by
 obtain ⟨⟨m, hm⟩, _⟩ := he
 refine (Tryz.strings_Cut s ⟨#[47]⟩ m w (by omega) hm).mono ?_
 rintro e w' ⟨rfl, q, rfl⟩
 have e1 : Lib.cut s.data.toList (⟨#[47]⟩ : ByteArray).data.toList = ((bytes s).take i, (bytes s).drop (i + 1), true) := by
  show Lib.cut (bytes s) [47] = _
  unfold Lib.cut
  rw [h, if_pos (by omega), Int.toNat_natCast]; rfl
 rw [e1]
 exact ⟨rfl, zEt w q⟩
theorem cut_miss {s : ByteArray} (h : Lib.index (bytes s) [47] = -1) (w : World) (he : Env w) (hs : s.size ≤ 1000000000) : Calls Tryz.prog 236 #[.string s, .string ⟨#[47]⟩] w fun e w' =>
  e = .returned (.tuple #[.string s, .string (str []), .bool false]) ∧ Below w.heap.size w w' := by
 obtain ⟨⟨m, hm⟩, _⟩ := he
 refine (Tryz.strings_Cut s ⟨#[47]⟩ m w (by omega) hm).mono ?_
 rintro e w' ⟨rfl, q, rfl⟩
 have e1 : Lib.cut s.data.toList (⟨#[47]⟩ : ByteArray).data.toList = (bytes s, [], false) := by
  show Lib.cut (bytes s) [47] = _
  unfold Lib.cut
  rw [h, if_neg (by omega)]
 rw [e1]
 exact ⟨rfl, zEt w q⟩
theorem take_small {s : ByteArray} {i n : Nat} (hs : s.size ≤ n) : (str ((bytes s).take i)).size ≤ n := by rw [zEj, List.length_take, zCo]; omega
theorem drop_small {s : ByteArray} {i n : Nat} (hs : s.size ≤ n) : (str ((bytes s).drop i)).size ≤ n := by rw [zEj, List.length_drop, zCo]; omega
set_option maxRecDepth 4000 in
theorem zJh (s : ByteArray) (w : World) (he : Env w) (hs : s.size ≤ 1000000000) : Calls Tryz.prog 198 #[.string s] w (zGt (hostA (bytes s)) w) := by
 have HE := hid he
 clear he
 rcases index_cases (bytes s) with h | ⟨i, h⟩
 ·have HI := hid h
  have HF := hid (host_miss h)
  clear h
  go_enter Tryz.func198, Tryz.ntmps198
  go_wp2_with fail
  refine (cut_miss HI.out _ HE.out hs).mono ?_
  rintro e w1 ⟨rfl, hb1⟩
  go_wp2_with fail
  go_ret3
  exact zGs HF.out hb1
 have HI := hid h
 have s1 := take_small (i := i) hs
 have s2 := drop_small (i := i + 1) hs
 clear h
 cases hp : zCe ((bytes s).take i) with
 | none =>
  have HP := hid hp
  have HF := hid (host_no1 HI.out hp)
  clear hp
  go_enter Tryz.func198, Tryz.ntmps198
  go_wp2_with fail
  refine (cut_hit HI.out _ HE.out hs).mono ?_
  rintro e w1 ⟨rfl, hb1⟩
  have hz := hb1.size
  go_wp2_with fail
  refine (parse_none (by rw [zBe]; exact HP.out) _ (HE.out.below hb1) s1).mono ?_
  rintro e w2 ⟨rfl, hb2⟩
  go_wp2_with fail
  go_ret3
  exact zGs HF.out (hb1.trans (hb2.mono hz))
 | some a =>
  have HP := hid hp
  clear hp
  cases hn : numIn ((bytes s).drop (i + 1)) 0 32 with
  | none =>
   have HN := hid hn
   have HF := hid (host_no2 HI.out hn)
   clear hn
   go_enter Tryz.func198, Tryz.ntmps198
   go_wp2_with fail
   refine (cut_hit HI.out _ HE.out hs).mono ?_
   rintro e w1 ⟨rfl, hb1⟩
   have hz := hb1.size
   go_wp2_with fail
   refine (zKf (by rw [zBe]; exact HP.out) _ (HE.out.below hb1) s1).mono ?_
   rintro e w2 ⟨rfl, hb2⟩
   go_wp2_with fail
   refine (zIj (by rw [zBe]; exact HN.out) _).mono ?_
   rintro e w' ⟨rfl, rfl⟩
   go_wp2_with fail
   go_ret3
   exact zGs HF.out (hb1.trans (hb2.mono hz))
  | some n =>
   have HN := hid hn
   have HF := hid (host_yes HI.out HP.out hn)
   clear hn
   go_enter Tryz.func198, Tryz.ntmps198
   go_wp2_with fail
   refine (cut_hit HI.out _ HE.out hs).mono ?_
   rintro e w1 ⟨rfl, hb1⟩
   have hz := hb1.size
   go_wp2_with fail
   refine (zKf (by rw [zBe]; exact HP.out) _ (HE.out.below hb1) s1).mono ?_
   rintro e w2 ⟨rfl, hb2⟩
   go_wp2_with fail
   refine (zIr (by rw [zBe]; exact HN.out) _).mono ?_
   rintro e w' ⟨rfl, rfl⟩
   go_wp2_with fail
   go_ret3
   exact hostPost_some HF.out (hb1.trans (hb2.mono hz))
def pfxA (l : List UInt8) : Option (Nat × Int) := match hostA l with
 | none => none
 | some (a, n) => if zBl a n then some (a, n) else none
def PfxPost (o : Option (Nat × Int)) (w : World) (e : Ending) (w' : World) : Prop :=
 e = .returned (.tuple #[PV (o.getD (0, 0)).1 (o.getD (0, 0)).2, .bool o.isSome]) ∧ Below w.heap.size w w'
theorem hostA_lt {l : List UInt8} {a : Nat} {n : Int} (h : hostA l = some (a, n)) : a < 4294967296 ∧ 0 ≤ n ∧ n ≤ 32 := by
 unfold hostA at h
 split at h
 ·cases hp : zCe (l.take (Lib.index l [47]).toNat) with
  | none => simp [hp] at h
  | some b =>
   cases hn : numIn (l.drop ((Lib.index l [47]).toNat + 1)) 0 32 with
   | none => simp [hp, hn] at h
   | some m =>
    simp only [hp, hn, Option.some.injEq, Prod.mk.injEq] at h
    obtain ⟨rfl, rfl⟩ := h
    exact ⟨zFo hp, numIn_bd hn⟩
 ·cases h
theorem host_none {s : ByteArray} (h : hostA (bytes s) = none) {w w' : World} {e : Ending} (hp : zGt (hostA (bytes s)) w e w') : e = .returned (.tuple #[.int .u32 0, .int .i64 0, .bool false]) ∧ Below w.heap.size w w' := by
 rw [h] at hp; exact hp
theorem host_some {s : ByteArray} {a : Nat} {n : Int} (h : hostA (bytes s) = some (a, n)) {w w' : World} {e : Ending} (hp : zGt (hostA (bytes s)) w e w') : e = .returned (.tuple #[.int .u32 (a : Int), .int .i64 n, .bool true]) ∧ Below w.heap.size w w' := by
 rw [h] at hp; exact hp
theorem zEr {w w1 : World} {a b : Value} {t : TypeId} (hb1 : Below (w.alloc (.cells #[a, b] t)).heap.size (w.alloc (.cells #[a, b] t)) w1) :
  Below w.heap.size w w1 ∧ w.heap.size + 1 ≤ w1.heap.size ∧ w1.cell? ⟨w.heap.size, 0, none⟩ = some a ∧ w1.cell? ⟨w.heap.size, 1, none⟩ = some b ∧ ∀ j, w1.frozen? ⟨w.heap.size, j, none⟩ = false := by
 refine ⟨((Below.refl _ w).alloc (Nat.le_refl _) _).trans (hb1.mono (by simp)), by have := hb1.size; simpa using this, ?_, ?_, fun j => ?_⟩
 ·rw [hb1.cell (p := ⟨w.heap.size, 0, none⟩) (by simp), zDs]; rfl
 ·rw [hb1.cell (p := ⟨w.heap.size, 1, none⟩) (by simp), zDs]; rfl
 ·rw [hb1.frozen (p := ⟨w.heap.size, j, none⟩) (by simp)]; exact World.frozen?_alloc_at _ _ _ _ rfl
theorem zAx {w1 : World} {b j : Nat} {v : Value} (hz : b + 1 ≤ w1.heap.size) (h : w1.cell? ⟨b, j, none⟩ = some v) : ∀ o, (w1.alloc o).cell? ⟨b, j, none⟩ = some v := fun o => (World.cell?_alloc_lt w1 o ⟨b, j, none⟩ (by show b < _; omega)).trans h
theorem zBy {w1 : World} {b : Nat} (hz : b + 1 ≤ w1.heap.size) (h : ∀ j, w1.frozen? ⟨b, j, none⟩ = false) : ∀ o j, (w1.alloc o).frozen? ⟨b, j, none⟩ = false := fun o j => (World.frozen?_alloc_old _ _ _ (by show b ≠ _; omega)).trans (h j)
set_option maxRecDepth 4000 in
theorem zFs (s : ByteArray) (w : World) (he : Env w) (hs : s.size ≤ 1000000000) : Calls Tryz.prog 172 #[.string s] w (PfxPost (pfxA (bytes s)) w) := by
 have HH := hid (fun w => fun he => zJh s w he hs)
 have HE := hid he
 clear he
 cases h : hostA (bytes s) with
 | none =>
  have HF : Hid (pfxA (bytes s) = none) := hid (by unfold pfxA; rw [h])
  have H := hid h
  clear h
  go_enter Tryz.func172, Tryz.ntmps172
  go_wp2_with fail
  refine (HH.out _ (HE.out.below ((Below.refl _ w).alloc (Nat.le_refl _) _))).mono ?_
  intro e w1 hpost
  obtain ⟨rfl, hb1⟩ := host_none H.out hpost
  clear hpost
  obtain ⟨hb, hz, c0, c1, f0⟩ := zEr hb1
  clear hb1
  have c0' := zAx hz c0
  have c1' := zAx hz c1
  have f0' := zBy hz f0
  go_wp2_with fail
  refine bodyPost_ret (v := .tuple #[PV 0 0, .bool false]) (by simp [results, Tryz.results172, go_sem, PV, *]) rfl ⟨by rw [HF.out]; rfl, ?_⟩
  exact ((hb.alloc hb.size _).setCell (Nat.le_refl _) _).setCell (Nat.le_refl _) _
 | some r =>
  obtain ⟨a, n⟩ := r
  obtain ⟨ha, _, _⟩ := hostA_lt h
  have H := hid h
  have HV := hid (fun w => zFb a n w ha)
  unfold PV at HV
  cases hv : zBl a n with
  | false =>
   have HF : Hid (pfxA (bytes s) = none) := hid (by unfold pfxA; rw [h]; simp [hv])
   clear h
   go_enter Tryz.func172, Tryz.ntmps172
   go_wp2_with fail
   refine (HH.out _ (HE.out.below ((Below.refl _ w).alloc (Nat.le_refl _) _))).mono ?_
   intro e w1 hpost
   obtain ⟨rfl, hb1⟩ := host_some H.out hpost
   clear hpost
   obtain ⟨hb, hz, c0, c1, f0⟩ := zEr hb1
   clear hb1
   have c0' := zAx hz c0
   have c1' := zAx hz c1
   have f0' := zBy hz f0
   go_wp2_with fail
   refine (HV.out _).mono ?_
   rintro e w2 ⟨rfl, hb2⟩
   have hz2 : w1.heap.size + 1 ≤ w2.heap.size := by have := hb2.size; simpa using this
   have hb3 : Below w.heap.size w w2 := (hb.alloc hb.size _).trans (hb2.mono (by simp; omega))
   have c0'' := (hb2.cell (p := ⟨w.heap.size, 0, none⟩) (by simp; omega)).trans (c0' _)
   have c1'' := (hb2.cell (p := ⟨w.heap.size, 1, none⟩) (by simp; omega)).trans (c1' _)
   have f0'' : ∀ j, w2.frozen? ⟨w.heap.size, j, none⟩ = false := fun j => (hb2.frozen (p := ⟨w.heap.size, j, none⟩) (by simp; omega)).trans (f0' _ j)
   clear hb2 c0 c1 f0 c0' c1' f0'
   go_wp2_with fail
   refine bodyPost_ret (v := .tuple #[PV 0 0, .bool false]) (by simp [results, Tryz.results172, go_sem, PV, *]) rfl ⟨by rw [HF.out]; rfl, ?_⟩
   exact (hb3.setCell (Nat.le_refl _) _).setCell (Nat.le_refl _) _
  | true =>
   have HF : Hid (pfxA (bytes s) = some (a, n)) := hid (by unfold pfxA; rw [h]; simp [hv])
   clear h
   go_enter Tryz.func172, Tryz.ntmps172
   go_wp2_with fail
   refine (HH.out _ (HE.out.below ((Below.refl _ w).alloc (Nat.le_refl _) _))).mono ?_
   intro e w1 hpost
   obtain ⟨rfl, hb1⟩ := host_some H.out hpost
   clear hpost
   obtain ⟨hb, hz, c0, c1, f0⟩ := zEr hb1
   clear hb1
   have c0' := zAx hz c0
   have c1' := zAx hz c1
   have f0' := zBy hz f0
   go_wp2_with fail
   refine (HV.out _).mono ?_
   rintro e w2 ⟨rfl, hb2⟩
   have hz2 : w1.heap.size + 1 ≤ w2.heap.size := by have := hb2.size; simpa using this
   have hb3 : Below w.heap.size w w2 := (hb.alloc hb.size _).trans (hb2.mono (by simp; omega))
   have c0'' := (hb2.cell (p := ⟨w.heap.size, 0, none⟩) (by simp; omega)).trans (c0' _)
   have c1'' := (hb2.cell (p := ⟨w.heap.size, 1, none⟩) (by simp; omega)).trans (c1' _)
   have f0'' : ∀ j, w2.frozen? ⟨w.heap.size, j, none⟩ = false := fun j => (hb2.frozen (p := ⟨w.heap.size, j, none⟩) (by simp; omega)).trans (f0' _ j)
   have b0 : w2.cell? ⟨w1.heap.size, 0, none⟩ = some (.int .u32 (a : Int)) := by rw [hb2.cell (p := ⟨w1.heap.size, 0, none⟩) (by simp), zDs]; rfl
   have b1 : w2.cell? ⟨w1.heap.size, 1, none⟩ = some (.int .i64 n) := by rw [hb2.cell (p := ⟨w1.heap.size, 1, none⟩) (by simp), zDs]; rfl
   clear hb2 c0 c1 f0 c0' c1' f0'
   go_wp2_with fail
   refine bodyPost_ret (v := .tuple #[PV a n, .bool true]) (by simp [results, Tryz.results172, go_sem, PV, *]) rfl ⟨by rw [HF.out]; rfl, ?_⟩
   exact (hb3.setCell (Nat.le_refl _) _).setCell (Nat.le_refl _) _
structure Ps where
 fs : List (List UInt8)
 bad : Bool
def Ps.fail (p : Ps) : Ps := ⟨p.fs, true⟩
theorem pfxA_fit {l : List UInt8} {a : Nat} {n : Int} (h : pfxA l = some (a, n)) : a < 4294967296 ∧ zBl a n = true := by
 unfold pfxA at h
 split at h
 ·cases h
 ·next b m hh =>
  split at h
  ·next hv =>
   simp only [Option.some.injEq, Prod.mk.injEq] at h
   obtain ⟨rfl, rfl⟩ := h
   exact ⟨(hostA_lt hh).1, hv⟩
  ·cases h
def Ps.short (p : Ps) : Prop := ∀ f ∈ p.fs, f.length ≤ 1000000000
end Go.Proofs.YtoceoaiokkbjeaaGreatDoor
