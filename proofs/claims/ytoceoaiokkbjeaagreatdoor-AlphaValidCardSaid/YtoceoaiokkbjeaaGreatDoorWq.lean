/- The walk of clauseCommand. Conditions: as in AlpC. -/
import Derived.Test.YtoceoaiokkbjeaaGreatDoorWn
set_option maxHeartbeats 2000000
namespace Go.Proofs.YtoceoaiokkbjeaaGreatDoor
open Lib (hid)
open Go.RowKit
theorem cutL_eq (c : UInt8) : ∀ l : List UInt8, Lib.cut l [c] = cutL c l
 | [] => rfl
 | x :: r => by
  have ih := cutL_eq c r
  have hp : ([c].isPrefixOf (x :: r)) = (c == x) := by
   show (c == x && true) = _
   exact Bool.and_true _
  have hc : (x == c) = (c == x) := BEq.comm
  unfold cutL
  unfold Lib.cut at ih ⊢
  unfold Lib.index
  rw [hp, hc]
  cases h : (c == x) with
  | true => simp
  | false =>
   rw [← ih]
   by_cases h1 : Lib.index r [c] = -1
   ·simp [h1]
   ·have h2 := Lib.index_ge r [c]
    have h3 : 0 ≤ Lib.index r [c] := by omega
    have h4 : (Lib.index r [c] + 1).toNat = (Lib.index r [c]).toNat + 1 := by omega
    have h5 : (Lib.index r [c] == -1) = false := by simpa using h1
    simp only [h5, Bool.false_eq_true, if_false, if_pos h3, if_pos (show 0 ≤ Lib.index r [c] + 1 by omega), h4, List.length_cons, List.length_nil]
    refine Prod.ext ?_ (Prod.ext ?_ rfl)
    ·simp
    ·show List.drop ((Lib.index r [c]).toNat + 1 + 1) (x :: r) = _
     rw [List.drop_succ_cons]
theorem cutL_len (c : UInt8) : ∀ l : List UInt8, (cutL c l).1.length ≤ l.length ∧ (cutL c l).2.1.length ≤ l.length
 | [] => ⟨Nat.le_refl _, Nat.le_refl _⟩
 | x :: r => by
  have ih := cutL_len c r
  unfold cutL
  split
  ·simp
  ·simp only [List.length_cons]; omega
theorem acut_any (c : UInt8) (l : List UInt8) (w : World) (he : Env w) (hs : l.length ≤ 1000000000) : Calls Tryz.prog 236 #[.string (str l), .string ⟨#[c]⟩] w fun e w' =>
  e = .returned (.tuple #[.string (str (cutL c l).1), .string (str (cutL c l).2.1), .bool (cutL c l).2.2]) ∧ Below w.heap.size w w' := by
 obtain ⟨⟨m, hm⟩, _⟩ := he
 refine (Tryz.strings_Cut (str l) ⟨#[c]⟩ m w (by rw [zEj]; omega) hm).mono ?_
 rintro e w' ⟨rfl, q, rfl⟩
 have e1 : Lib.cut (str l).data.toList (⟨#[c]⟩ : ByteArray).data.toList = cutL c l := by
  rw [← cutL_eq]
  simp [str]
 rw [e1]
 exact ⟨rfl, zEt w q⟩
theorem num_no (l : List UInt8) (lo hi : Int) (h : numIn l lo hi = none) (w : World) : Calls Tryz.prog 174 #[.string (str l), .int .i64 lo, .int .i64 hi] w fun e w' => e = .returned (.tuple #[.int .i64 0, .bool false]) ∧ w = w' :=
 zIj (by rw [zBe]; exact h) w
theorem num_yes (l : List UInt8) (lo hi v : Int) (h : numIn l lo hi = some v) (w : World) : Calls Tryz.prog 174 #[.string (str l), .int .i64 lo, .int .i64 hi] w fun e w' => e = .returned (.tuple #[.int .i64 v, .bool true]) ∧ w = w' :=
 zIr (by rw [zBe]; exact h) w
def PoPost (o : Option (Int × Int)) (w : World) (e : Ending) (w' : World) : Prop := e = .returned (.tuple #[.agg #[.int .i64 (o.getD (0, 0)).1, .int .i64 (o.getD (0, 0)).2], .bool o.isSome]) ∧ Below w.heap.size w w'
def WiPost (o : Option (Nat × Nat)) (w : World) (e : Ending) (w' : World) : Prop := e = .returned (.tuple #[.agg #[.int .u32 ((o.getD (0, 0)).1 : Int), .int .u32 ((o.getD (0, 0)).2 : Int)], .bool o.isSome]) ∧ Below w.heap.size w w'
theorem parsePorts_any (l : List UInt8) (w : World) (he : Env w) (hs : l.length ≤ 1000000000) : Calls Tryz.prog 230 #[.string (str l)] w (PoPost (portA l) w) := by
 have HC := hid (fun w he => acut_any 45 l w he hs)
 have HE := hid he
 clear he
 unfold portA
 generalize cutL 45 l = z at HC ⊢
 obtain ⟨fr, bk, fd⟩ := z
 dsimp only at HC ⊢
 cases h1 : numIn fr 0 65535 with
 | none =>
  have HN := hid (num_no fr 0 65535 h1)
  clear h1
  go_enter Tryz.func230, Tryz.ntmps230
  go_wp2_with fail
  refine (HC.out _ (HE.out.below ((Below.refl _ w).alloc (Nat.le_refl _) _))).mono ?_
  rintro e w1 ⟨rfl, hb1⟩
  obtain ⟨hb, hz, c0, c1, f0⟩ := zEr hb1
  clear hb1
  go_wp2_with fail
  refine (HN.out _).mono ?_
  rintro e w2 ⟨rfl, rfl⟩
  go_wp2_with fail
  refine bodyPost_ret (v := .tuple #[.agg #[.int .i64 0, .int .i64 0], .bool false]) (by simp [results, Tryz.results230, go_sem, *]) rfl ⟨rfl, ?_⟩
  exact (hb.setCell (Nat.le_refl _) _).setCell (Nat.le_refl _) _
 | some lo =>
  have HN := hid (num_yes fr 0 65535 lo h1)
  clear h1
  cases fd with
  | false =>
   go_enter Tryz.func230, Tryz.ntmps230
   go_wp2_with fail
   refine (HC.out _ (HE.out.below ((Below.refl _ w).alloc (Nat.le_refl _) _))).mono ?_
   rintro e w1 ⟨rfl, hb1⟩
   obtain ⟨hb, hz, c0, c1, f0⟩ := zEr hb1
   clear hb1
   go_wp2_with fail
   refine (HN.out _).mono ?_
   rintro e w2 ⟨rfl, rfl⟩
   go_wp2_with fail
   refine bodyPost_ret (v := .tuple #[.agg #[.int .i64 lo, .int .i64 lo], .bool true]) (by simp [results, Tryz.results230, go_sem, *]) rfl ⟨rfl, ?_⟩
   exact (hb.setCell (Nat.le_refl _) _).setCell (Nat.le_refl _) _
  | true =>
   cases h2 : numIn bk 0 65535 with
   | none =>
    have HM := hid (num_no bk 0 65535 h2)
    clear h2
    go_enter Tryz.func230, Tryz.ntmps230
    go_wp2_with fail
    refine (HC.out _ (HE.out.below ((Below.refl _ w).alloc (Nat.le_refl _) _))).mono ?_
    rintro e w1 ⟨rfl, hb1⟩
    obtain ⟨hb, hz, c0, c1, f0⟩ := zEr hb1
    clear hb1
    go_wp2_with fail
    refine (HN.out _).mono ?_
    rintro e w2 ⟨rfl, rfl⟩
    go_wp2_with fail
    refine (HM.out _).mono ?_
    rintro e w2 ⟨rfl, rfl⟩
    go_wp2_with fail
    refine bodyPost_ret (v := .tuple #[.agg #[.int .i64 0, .int .i64 0], .bool false]) (by simp [results, Tryz.results230, go_sem, *]) rfl ⟨rfl, ?_⟩
    exact (hb.setCell (Nat.le_refl _) _).setCell (Nat.le_refl _) _
   | some hi =>
    have HM := hid (num_yes bk 0 65535 hi h2)
    clear h2
    go_enter Tryz.func230, Tryz.ntmps230
    go_wp2_with fail
    refine (HC.out _ (HE.out.below ((Below.refl _ w).alloc (Nat.le_refl _) _))).mono ?_
    rintro e w1 ⟨rfl, hb1⟩
    obtain ⟨hb, hz, c0, c1, f0⟩ := zEr hb1
    clear hb1
    go_wp2_with fail
    refine (HN.out _).mono ?_
    rintro e w2 ⟨rfl, rfl⟩
    go_wp2_with fail
    refine (HM.out _).mono ?_
    rintro e w2 ⟨rfl, rfl⟩
    go_wp2_with fail
    refine bodyPost_ret (v := .tuple #[.agg #[.int .i64 lo, .int .i64 hi], .bool true]) (by simp [results, Tryz.results230, go_sem, *]) rfl ⟨rfl, ?_⟩
    exact (hb.setCell (Nat.le_refl _) _).setCell (Nat.le_refl _) _
theorem zHt (b B : Nat) (p : Ps) (w : World) (h : WSt 131 b B p w) (he : EnvA B w) (hs : p.short) : Calls Tryz.prog 179 #[.pointer (some ⟨b, 0, none⟩)] w (WPost 131 b B (.agg #[.int .i64 (poV p).1, .int .i64 (poV p).2]) (poS p) w) := by
 have hB := h.1
 have hlt := h.lt
 have hss := zJg hs
 have H := hid h
 have HE := hid he
 have HN := hid (fun w h => zBc b B p w h)
 have HM := hid (fun p ok w h => zCy b B p ok w h)
 have HK : Hid (∀ w, Env w → Calls Tryz.prog 230 #[.string (str (wV p))] w fun e w' => e = .returned (.tuple #[.agg #[.int .i64 (poV p).1, .int .i64 (poV p).2], .bool (portA (wV p)).isSome]) ∧ Below w.heap.size w w') := hid (fun w he => by have := parsePorts_any (wV p) w he (by rw [zEj] at hss; exact hss); exact this)
 unfold strV at HN
 have E : Hid (poS p = mustS (portA (wV p)).isSome (wS p)) := hid rfl
 clear h he hs hss
 generalize ((poV p).1 : Int) = va at HK ⊢
 generalize ((poV p).2 : Int) = vb at HK ⊢
 generalize (portA (wV p)).isSome = vo at HK E
 go_enter Tryz.func179, Tryz.ntmps179
 go_wp2_with fail
 refine (HN.out _ (H.out.keep ((Below.refl _ w).alloc (Nat.le_refl _) _))).mono ?_
 rintro e w1 ⟨rfl, h1, k1⟩
 have H1 := hid h1
 obtain ⟨hz1, c0, c1, f0⟩ := zJz k1 hlt
 have K1 := hid ((World.grownBy_alloc w _ _).trans k1)
 have HE1 := hid ((HE.out.keep ((Below.refl B w).alloc (by omega) _)).on k1 hB (by simp; omega))
 clear h1 k1
 go_wp2_with fail
 refine (HK.out w1 HE1.out.1).mono ?_
 rintro e w2 ⟨rfl, hb2⟩
 obtain ⟨hz2, d0, d1, g0⟩ := zCa hb2 hz1 c0 c1 f0
 have H2 := hid (H1.out.keep hb2)
 have K2 := hid (zCu K1.out (hb2.mono (by omega)))
 clear hb2 c0 c1 f0
 have c0' := zAx hz2 d0
 have c1' := zAx hz2 d1
 have f0' := zBy hz2 g0
 clear d0 d1 g0
 go_wp2_with fail
 refine (HM.out _ _ _ (H2.out.keep ((Below.refl _ w2).alloc (Nat.le_refl _) _))).mono ?_
 rintro e w3 ⟨rfl, h3, k3⟩
 obtain ⟨hz3, e0, e1, g3⟩ := zJz k3 (by omega)
 obtain ⟨hz4, r0, r1, g4⟩ := far_on k3 (g := w.heap.size) (by simp; omega) (by omega) (c0' _) (c1' _) (f0' _)
 have H3 := hid h3
 have K3 := hid ((K2.out.trans (World.grownBy_alloc w2 _ _)).trans k3)
 clear h3 k3 c0' c1' f0'
 go_wp2_with fail
 refine bodyPost_ret (v := .agg #[.int .i64 va, .int .i64 vb]) (by simp [results, Tryz.results179, go_sem, *]) rfl ⟨rfl, ?_⟩
 rw [E.out]
 exact wbox_end H3.out K3.out hlt _ _
theorem whost_any (b B : Nat) (p : Ps) (w : World) (h : WSt 131 b B p w) (he : EnvA B w) (hs : p.short) : Calls Tryz.prog 145 #[.pointer (some ⟨b, 0, none⟩)] w (WPost 131 b B (.tuple #[.int .u32 ((hoV p).1 : Int), .int .i64 (hoV p).2]) (hoS p) w) := by
 have hB := h.1
 have hlt := h.lt
 have hss := zJg hs
 have H := hid h
 have HE := hid he
 have HN := hid (fun w h => zBc b B p w h)
 have HM := hid (fun p ok w h => zCy b B p ok w h)
 have HK : Hid (∀ w, Env w → Calls Tryz.prog 198 #[.string (str (wV p))] w (zGt (hostA (wV p)) w)) := hid (fun w he => by have := zJh (str (wV p)) w he hss; rw [zBe] at this; exact this)
 unfold strV at HN
 unfold hoS hoV
 unfold zGt at HK
 clear h he hs hss
 generalize hostA (wV p) = o at HK ⊢
 have E : Hid (∀ c : Bool, (o.isSome && !((o.getD (0, 0)).1 == 0) && !((o.getD (0, 0)).2 == 0)) = c → WPost 131 b B (.tuple #[.int .u32 ((o.getD (0, 0)).1 : Int), .int .i64 (o.getD (0, 0)).2]) (mustS (o.isSome && !((o.getD (0, 0)).1 == 0) && !((o.getD (0, 0)).2 == 0)) (wS p)) w = WPost 131 b B (.tuple #[.int .u32 ((o.getD (0, 0)).1 : Int), .int .i64 (o.getD (0, 0)).2]) (mustS c (wS p)) w) := hid (fun c e => by rw [e])
 cases o with
 | none =>
  rw [E.out false rfl]
  simp only [Option.getD_none, Option.isSome_none] at HK ⊢
  go_enter Tryz.func145, Tryz.ntmps145
  go_wp2_with fail
  refine (HN.out _ H.out).mono ?_
  rintro e w1 ⟨rfl, h1, k1⟩
  have HE1 := hid (HE.out.on k1 hB (by omega))
  go_wp2_with fail
  refine (HK.out _ HE1.out.1).mono ?_
  rintro e w2 ⟨rfl, k2⟩
  go_wp2_with fail
  refine (HM.out _ _ _ (h1.keep k2)).mono ?_
  rintro e w3 ⟨rfl, h3, k3⟩
  go_wp2_with fail
  go_ret2
  exact ⟨rfl, h3, (zCu k1 (k2.mono k1.size)).trans k3⟩
 | some x =>
  obtain ⟨a, n⟩ := x
  simp only [Option.getD_some, Option.isSome_some, Bool.true_and] at HK E ⊢
  cases ha : (a == 0) with
  | true =>
   have q1 : (((a : Nat) : Int) != 0) = false := by have := eq_of_beq ha; subst this; rfl
   rw [ha] at E
   have e1 := E.out false rfl
   rw [e1]
   clear ha e1 E
   go_enter Tryz.func145, Tryz.ntmps145
   go_wp2_with fail
   refine (HN.out _ H.out).mono ?_
   rintro e w1 ⟨rfl, h1, k1⟩
   have HE1 := hid (HE.out.on k1 hB (by omega))
   go_wp2_with fail
   refine (HK.out _ HE1.out.1).mono ?_
   rintro e w2 ⟨rfl, k2⟩
   go_wp2_with fail
   refine (HM.out _ _ _ (h1.keep k2)).mono ?_
   rintro e w3 ⟨rfl, h3, k3⟩
   go_wp2_with fail
   go_ret2
   exact ⟨rfl, h3, (zCu k1 (k2.mono k1.size)).trans k3⟩
  | false =>
   have q1 : (((a : Nat) : Int) != 0) = true := by simp only [bne_iff_ne]; intro e; rw [show a = 0 from by omega] at ha; cases ha
   rw [ha] at E
   cases hn : (n == 0) with
   | true =>
    have q2 : (n != 0) = false := by have := eq_of_beq hn; subst this; rfl
    rw [hn] at E
    have e1 := E.out false rfl
    rw [e1]
    clear ha hn e1 E
    go_enter Tryz.func145, Tryz.ntmps145
    go_wp2_with fail
    refine (HN.out _ H.out).mono ?_
    rintro e w1 ⟨rfl, h1, k1⟩
    have HE1 := hid (HE.out.on k1 hB (by omega))
    go_wp2_with fail
    refine (HK.out _ HE1.out.1).mono ?_
    rintro e w2 ⟨rfl, k2⟩
    go_wp2_with fail
    refine (HM.out _ _ _ (h1.keep k2)).mono ?_
    rintro e w3 ⟨rfl, h3, k3⟩
    go_wp2_with fail
    go_ret2
    exact ⟨rfl, h3, (zCu k1 (k2.mono k1.size)).trans k3⟩
   | false =>
    have q2 : (n != 0) = true := by simp only [bne_iff_ne]; intro e; subst e; cases hn
    rw [hn] at E
    have e1 := E.out true rfl
    rw [e1]
    clear ha hn e1 E
    go_enter Tryz.func145, Tryz.ntmps145
    go_wp2_with fail
    refine (HN.out _ H.out).mono ?_
    rintro e w1 ⟨rfl, h1, k1⟩
    have HE1 := hid (HE.out.on k1 hB (by omega))
    go_wp2_with fail
    refine (HK.out _ HE1.out.1).mono ?_
    rintro e w2 ⟨rfl, k2⟩
    go_wp2_with fail
    refine (HM.out _ _ _ (h1.keep k2)).mono ?_
    rintro e w3 ⟨rfl, h3, k3⟩
    go_wp2_with fail
    go_ret2
    exact ⟨rfl, h3, (zCu k1 (k2.mono k1.size)).trans k3⟩
theorem aparse_no (l : List UInt8) (h : zCe l = none) (hs : l.length ≤ 1000000000) (w : World) (he : Env w) : Calls Tryz.prog 232 #[.string (str l)] w fun e w' => e = .returned (.tuple #[.int .u32 0, .bool false]) ∧ Below w.heap.size w w' :=
 parse_none (by rw [zBe]; exact h) w he (by rw [zEj]; exact hs)
theorem zKc (l : List UInt8) (a : Nat) (h : zCe l = some a) (hs : l.length ≤ 1000000000) (w : World) (he : Env w) : Calls Tryz.prog 232 #[.string (str l)] w fun e w' => e = .returned (.tuple #[.int .u32 (a : Int), .bool true]) ∧ Below w.heap.size w w' :=
 zKf (by rw [zBe]; exact h) w he (by rw [zEj]; exact hs)
theorem apfx_no (l : List UInt8) (h : pfxA l = none) (hs : l.length ≤ 1000000000) (w : World) (he : Env w) : Calls Tryz.prog 172 #[.string (str l)] w fun e w' => e = .returned (.tuple #[.agg #[.int .u32 0, .int .i64 0], .bool false]) ∧ Below w.heap.size w w' := by
 have := zFs (str l) w he (by rw [zEj]; exact hs)
 rw [zBe, h] at this
 exact this
theorem apfx_yes (l : List UInt8) (a : Nat) (n : Int) (h : pfxA l = some (a, n)) (hs : l.length ≤ 1000000000) (w : World) (he : Env w) : Calls Tryz.prog 172 #[.string (str l)] w fun e w' => e = .returned (.tuple #[.agg #[.int .u32 (a : Int), .int .i64 n], .bool true]) ∧ Below w.heap.size w w' := by
 have := zFs (str l) w he (by rw [zEj]; exact hs)
 rw [zBe, h] at this
 exact this
theorem not_mask (n : Int) : bits .xor .u32 IntKind.u32.max (maskN n : Int) = ((4294967295 - maskN n : Nat) : Int) := by
 rw [i_not]
 have h1 := sz_le n
 have h2 := sz_pos n
 unfold maskN
 omega
theorem zJy (l : List UInt8) (w : World) (he : Env w) (hs : l.length ≤ 1000000000) : Calls Tryz.prog 229 #[.string (str l)] w (WiPost (wildA l) w) := by
 have HE := hid he
 have q0 : ((str l).toList == [97, 110, 121]) = (l == [97, 110, 121]) := by rw [zAb]
 clear he
 cases h0 : (l == [97, 110, 121]) with
 | true =>
  have HF : Hid (wildA l = some (0, 4294967295)) := hid (by unfold wildA; rw [h0]; rfl)
  rw [h0] at q0
  clear h0
  have HM : Hid (∀ w, Calls Tryz.prog 186 #[.int .i64 32] w fun e w' => e = .returned (.int .u32 4294967295) ∧ w = w') := hid (fun w => zJf 32 w)
  go_enter Tryz.func229, Tryz.ntmps229
  go_wp2_with fail
  refine (HM.out _).mono ?_
  rintro e w1 ⟨rfl, rfl⟩
  go_wp2_with fail
  refine bodyPost_ret (v := .tuple #[.agg #[.int .u32 0, .int .u32 4294967295], .bool true]) (by simp [results, Tryz.results229, go_sem, *]) rfl ⟨by rw [HF.out]; rfl, ?_⟩
  first | exact (((Below.refl _ w).alloc (Nat.le_refl _) _).setCell (Nat.le_refl _) _).setCell (Nat.le_refl _) _ | exact ((Below.refl _ w).alloc (Nat.le_refl _) _).setCell (Nat.le_refl _) _ | exact (Below.refl _ w).alloc (Nat.le_refl _) _
 | false =>
  rw [h0] at q0
  have HP := hid (fun a h w he => zKc l a h hs w he)
  have HX := hid (fun a n h w he => apfx_yes l a n h hs w he)
  have HQ := hid (fun h w he => aparse_no l h hs w he)
  have HY := hid (fun h w he => apfx_no l h hs w he)
  cases h1 : zCe l with
  | some a =>
   have HF : Hid (wildA l = some (a, 0)) := hid (by unfold wildA; rw [h0, h1]; rfl)
   have H1 := hid h1
   clear h0 h1
   go_enter Tryz.func229, Tryz.ntmps229
   go_wp2_with fail
   refine (HP.out a H1.out _ (HE.out.below ((Below.refl _ w).alloc (Nat.le_refl _) _))).mono ?_
   rintro e w1 ⟨rfl, hb1⟩
   obtain ⟨hb, hz, c0, c1, f0⟩ := zEr hb1
   have HB := hid hb
   clear hb1 hb
   go_wp2_with fail
   refine bodyPost_ret (v := .tuple #[.agg #[.int .u32 (a : Int), .int .u32 0], .bool true]) (by simp [results, Tryz.results229, go_sem, *]) rfl ⟨by rw [HF.out]; rfl, ?_⟩
   exact (HB.out.setCell (Nat.le_refl _) _).setCell (Nat.le_refl _) _
  | none =>
   have H1 := hid h1
   cases h2 : pfxA l with
   | some x =>
    obtain ⟨a, n⟩ := x
    have HF : Hid (wildA l = some (a, 4294967295 - maskN n)) := hid (by unfold wildA; rw [h0, h1, h2]; rfl)
    have H2 := hid h2
    have HM := hid (fun w => zJf n w)
    have E := not_mask n
    clear h0 h1 h2
    go_enter Tryz.func229, Tryz.ntmps229
    go_wp2_with fail
    refine (HQ.out H1.out _ (HE.out.below ((Below.refl _ w).alloc (Nat.le_refl _) _))).mono ?_
    rintro e w1 ⟨rfl, hb1⟩
    obtain ⟨hb, hz, c0, c1, f0⟩ := zEr hb1
    have HB := hid hb
    clear hb1 hb
    go_wp2_with fail
    refine (HX.out a n H2.out _ (HE.out.below HB.out)).mono ?_
    rintro e w2 ⟨rfl, hb2⟩
    obtain ⟨hz', d0, d1, g0⟩ := zCa hb2 (g := w.heap.size) hz c0 c1 f0
    have HB := hid (HB.out.trans (hb2.mono HB.out.size))
    clear c0 c1 f0
    clear hb2 hz
    have hz := hz'
    have c0 := d0
    have c1 := d1
    have f0 := g0
    clear hz' d0 d1 g0
    have c0' := zAx hz c0
    have c1' := zAx hz c1
    have f0' := zBy hz f0
    clear c0 c1 f0
    go_wp2_with fail
    go_region_with (go_at_call 186; refine (HM.out _).mono ?_; rintro e w' ⟨rfl, rfl⟩)
    all_goals (go_wp2_with fail; refine bodyPost_ret (v := .tuple #[.agg #[.int .u32 (a : Int), .int .u32 ((4294967295 - maskN n : Nat) : Int)], .bool true]) (by simp [results, Tryz.results229, go_sem, *]) rfl ⟨by rw [HF.out]; rfl, (((HB.out.alloc HB.out.size _).setCell (Nat.le_refl _) _).setCell (Nat.le_refl _) _).drew⟩)
   | none =>
    have H2 := hid h2
    have HC := hid (fun w he => acut_any 126 l w he hs)
    have hl := cutL_len 126 l
    have EW : Hid (wildA l = match zCe (cutL 126 l).1 with
     | none => none
     | some a => match zCe (cutL 126 l).2.1 with
      | none => none
      | some m => if a &&& m == 0 then some (a, m) else none) := hid (by unfold wildA; rw [h0, h1, h2]; rfl)
    clear h0 h1 h2
    generalize cutL 126 l = z at HC hl EW
    obtain ⟨fr, bk, fd⟩ := z
    dsimp only at HC hl EW
    have l1 : fr.length ≤ 1000000000 := by omega
    have l2 : bk.length ≤ 1000000000 := by omega
    cases h3 : zCe fr with
    | none =>
     have HF : Hid (wildA l = none) := hid (by rw [EW.out, h3])
     have H3 := hid (fun w he => aparse_no fr h3 l1 w he)
     clear h3
     go_enter Tryz.func229, Tryz.ntmps229
     go_wp2_with fail
     refine (HQ.out H1.out _ (HE.out.below ((Below.refl _ w).alloc (Nat.le_refl _) _))).mono ?_
     rintro e w1 ⟨rfl, hb1⟩
     obtain ⟨hb, hz, c0, c1, f0⟩ := zEr hb1
     have HB := hid hb
     clear hb1 hb
     go_wp2_with fail
     refine (HY.out H2.out _ (HE.out.below HB.out)).mono ?_
     rintro e w2 ⟨rfl, hb2⟩
     obtain ⟨hz', d0, d1, g0⟩ := zCa hb2 (g := w.heap.size) hz c0 c1 f0
     have HB := hid (HB.out.trans (hb2.mono HB.out.size))
     clear c0 c1 f0
     clear hb2 hz
     have hz := hz'
     have c0 := d0
     have c1 := d1
     have f0 := g0
     clear hz' d0 d1 g0
     have c0' := zAx hz c0
     have c1' := zAx hz c1
     have f0' := zBy hz f0
     clear c0 c1 f0
     go_wp2_with fail
     refine (HC.out _ (HE.out.below (HB.out.alloc HB.out.size _))).mono ?_
     rintro e w3 ⟨rfl, hb3⟩
     obtain ⟨hz', d0, d1, g0⟩ := zCa hb3 (g := w.heap.size) (by simp; omega) (c0' _) (c1' _) (f0' _)
     have HB := hid ((HB.out.alloc HB.out.size _).trans (hb3.mono (by simp; omega)))
     clear c0' c1' f0'
     clear hb3 hz
     have hz := hz'
     have c0 := d0
     have c1 := d1
     have f0 := g0
     clear hz' d0 d1 g0
     go_wp2_with fail
     refine (H3.out _ (HE.out.below HB.out)).mono ?_
     rintro e w4 ⟨rfl, hb4⟩
     obtain ⟨hz', d0, d1, g0⟩ := zCa hb4 (g := w.heap.size) hz c0 c1 f0
     have HB := hid (HB.out.trans (hb4.mono HB.out.size))
     clear c0 c1 f0
     clear hb4 hz
     have hz := hz'
     have c0 := d0
     have c1 := d1
     have f0 := g0
     clear hz' d0 d1 g0
     go_wp2_with fail
     refine bodyPost_ret (v := .tuple #[.agg #[.int .u32 0, .int .u32 0], .bool false]) (by simp [results, Tryz.results229, go_sem, *]) rfl ⟨by rw [HF.out]; rfl, ?_⟩
     exact (HB.out.setCell (Nat.le_refl _) _).setCell (Nat.le_refl _) _
    | some a =>
     have H3 := hid (fun w he => zKc fr a h3 l1 w he)
     cases h4 : zCe bk with
     | none =>
      have HF : Hid (wildA l = none) := hid (by rw [EW.out, h3]; simp only [h4])
      have H4 := hid (fun w he => aparse_no bk h4 l2 w he)
      clear h3 h4
      go_enter Tryz.func229, Tryz.ntmps229
      go_wp2_with fail
      refine (HQ.out H1.out _ (HE.out.below ((Below.refl _ w).alloc (Nat.le_refl _) _))).mono ?_
      rintro e w1 ⟨rfl, hb1⟩
      obtain ⟨hb, hz, c0, c1, f0⟩ := zEr hb1
      have HB := hid hb
      clear hb1 hb
      go_wp2_with fail
      refine (HY.out H2.out _ (HE.out.below HB.out)).mono ?_
      rintro e w2 ⟨rfl, hb2⟩
      obtain ⟨hz', d0, d1, g0⟩ := zCa hb2 (g := w.heap.size) hz c0 c1 f0
      have HB := hid (HB.out.trans (hb2.mono HB.out.size))
      clear c0 c1 f0
      clear hb2 hz
      have hz := hz'
      have c0 := d0
      have c1 := d1
      have f0 := g0
      clear hz' d0 d1 g0
      have c0' := zAx hz c0
      have c1' := zAx hz c1
      have f0' := zBy hz f0
      clear c0 c1 f0
      go_wp2_with fail
      refine (HC.out _ (HE.out.below (HB.out.alloc HB.out.size _))).mono ?_
      rintro e w3 ⟨rfl, hb3⟩
      obtain ⟨hz', d0, d1, g0⟩ := zCa hb3 (g := w.heap.size) (by simp; omega) (c0' _) (c1' _) (f0' _)
      have HB := hid ((HB.out.alloc HB.out.size _).trans (hb3.mono (by simp; omega)))
      clear c0' c1' f0'
      clear hb3 hz
      have hz := hz'
      have c0 := d0
      have c1 := d1
      have f0 := g0
      clear hz' d0 d1 g0
      go_wp2_with fail
      refine (H3.out _ (HE.out.below HB.out)).mono ?_
      rintro e w4 ⟨rfl, hb4⟩
      obtain ⟨hz', d0, d1, g0⟩ := zCa hb4 (g := w.heap.size) hz c0 c1 f0
      have HB := hid (HB.out.trans (hb4.mono HB.out.size))
      clear c0 c1 f0
      clear hb4 hz
      have hz := hz'
      have c0 := d0
      have c1 := d1
      have f0 := g0
      clear hz' d0 d1 g0
      go_wp2_with fail
      refine (H4.out _ (HE.out.below HB.out)).mono ?_
      rintro e w5 ⟨rfl, hb5⟩
      obtain ⟨hz', d0, d1, g0⟩ := zCa hb5 (g := w.heap.size) hz c0 c1 f0
      have HB := hid (HB.out.trans (hb5.mono HB.out.size))
      clear c0 c1 f0
      clear hb5 hz
      have hz := hz'
      have c0 := d0
      have c1 := d1
      have f0 := g0
      clear hz' d0 d1 g0
      go_wp2_with fail
      refine bodyPost_ret (v := .tuple #[.agg #[.int .u32 0, .int .u32 0], .bool false]) (by simp [results, Tryz.results229, go_sem, *]) rfl ⟨by rw [HF.out]; rfl, ?_⟩
      exact (HB.out.setCell (Nat.le_refl _) _).setCell (Nat.le_refl _) _
     | some m =>
      have H4 := hid (fun w he => zKc bk m h4 l2 w he)
      have E := u32_and_nat a m (zFo h3) (zFo h4)
      cases h5 : (a &&& m == 0) with
      | true =>
       have q5 : (((a &&& m : Nat) : Int) != 0) = false := by have := eq_of_beq h5; rw [this]; rfl
       have HF : Hid (wildA l = some (a, m)) := hid (by rw [EW.out, h3]; simp only [h4, h5]; rfl)
       clear h3 h4 h5
       go_enter Tryz.func229, Tryz.ntmps229
       go_wp2_with fail
       refine (HQ.out H1.out _ (HE.out.below ((Below.refl _ w).alloc (Nat.le_refl _) _))).mono ?_
       rintro e w1 ⟨rfl, hb1⟩
       obtain ⟨hb, hz, c0, c1, f0⟩ := zEr hb1
       have HB := hid hb
       clear hb1 hb
       go_wp2_with fail
       refine (HY.out H2.out _ (HE.out.below HB.out)).mono ?_
       rintro e w2 ⟨rfl, hb2⟩
       obtain ⟨hz', d0, d1, g0⟩ := zCa hb2 (g := w.heap.size) hz c0 c1 f0
       have HB := hid (HB.out.trans (hb2.mono HB.out.size))
       clear c0 c1 f0
       clear hb2 hz
       have hz := hz'
       have c0 := d0
       have c1 := d1
       have f0 := g0
       clear hz' d0 d1 g0
       have c0' := zAx hz c0
       have c1' := zAx hz c1
       have f0' := zBy hz f0
       clear c0 c1 f0
       go_wp2_with fail
       refine (HC.out _ (HE.out.below (HB.out.alloc HB.out.size _))).mono ?_
       rintro e w3 ⟨rfl, hb3⟩
       obtain ⟨hz', d0, d1, g0⟩ := zCa hb3 (g := w.heap.size) (by simp; omega) (c0' _) (c1' _) (f0' _)
       have HB := hid ((HB.out.alloc HB.out.size _).trans (hb3.mono (by simp; omega)))
       clear c0' c1' f0'
       clear hb3 hz
       have hz := hz'
       have c0 := d0
       have c1 := d1
       have f0 := g0
       clear hz' d0 d1 g0
       go_wp2_with fail
       refine (H3.out _ (HE.out.below HB.out)).mono ?_
       rintro e w4 ⟨rfl, hb4⟩
       obtain ⟨hz', d0, d1, g0⟩ := zCa hb4 (g := w.heap.size) hz c0 c1 f0
       have HB := hid (HB.out.trans (hb4.mono HB.out.size))
       clear c0 c1 f0
       clear hb4 hz
       have hz := hz'
       have c0 := d0
       have c1 := d1
       have f0 := g0
       clear hz' d0 d1 g0
       go_wp2_with fail
       refine (H4.out _ (HE.out.below HB.out)).mono ?_
       rintro e w5 ⟨rfl, hb5⟩
       obtain ⟨hz', d0, d1, g0⟩ := zCa hb5 (g := w.heap.size) hz c0 c1 f0
       have HB := hid (HB.out.trans (hb5.mono HB.out.size))
       clear c0 c1 f0
       clear hb5 hz
       have hz := hz'
       have c0 := d0
       have c1 := d1
       have f0 := g0
       clear hz' d0 d1 g0
       go_wp2_with fail
       refine bodyPost_ret (v := .tuple #[.agg #[.int .u32 (a : Int), .int .u32 (m : Int)], .bool true]) (by simp [results, Tryz.results229, go_sem, *]) rfl ⟨by rw [HF.out]; rfl, ?_⟩
       exact (HB.out.setCell (Nat.le_refl _) _).setCell (Nat.le_refl _) _
      | false =>
       have q5 : (((a &&& m : Nat) : Int) != 0) = true := by simp only [bne_iff_ne]; intro e; rw [show a &&& m = 0 from by omega] at h5; cases h5
       have HF : Hid (wildA l = none) := hid (by rw [EW.out, h3]; simp only [h4, h5]; rfl)
       clear h3 h4 h5
       go_enter Tryz.func229, Tryz.ntmps229
       go_wp2_with fail
       refine (HQ.out H1.out _ (HE.out.below ((Below.refl _ w).alloc (Nat.le_refl _) _))).mono ?_
       rintro e w1 ⟨rfl, hb1⟩
       obtain ⟨hb, hz, c0, c1, f0⟩ := zEr hb1
       have HB := hid hb
       clear hb1 hb
       go_wp2_with fail
       refine (HY.out H2.out _ (HE.out.below HB.out)).mono ?_
       rintro e w2 ⟨rfl, hb2⟩
       obtain ⟨hz', d0, d1, g0⟩ := zCa hb2 (g := w.heap.size) hz c0 c1 f0
       have HB := hid (HB.out.trans (hb2.mono HB.out.size))
       clear c0 c1 f0
       clear hb2 hz
       have hz := hz'
       have c0 := d0
       have c1 := d1
       have f0 := g0
       clear hz' d0 d1 g0
       have c0' := zAx hz c0
       have c1' := zAx hz c1
       have f0' := zBy hz f0
       clear c0 c1 f0
       go_wp2_with fail
       refine (HC.out _ (HE.out.below (HB.out.alloc HB.out.size _))).mono ?_
       rintro e w3 ⟨rfl, hb3⟩
       obtain ⟨hz', d0, d1, g0⟩ := zCa hb3 (g := w.heap.size) (by simp; omega) (c0' _) (c1' _) (f0' _)
       have HB := hid ((HB.out.alloc HB.out.size _).trans (hb3.mono (by simp; omega)))
       clear c0' c1' f0'
       clear hb3 hz
       have hz := hz'
       have c0 := d0
       have c1 := d1
       have f0 := g0
       clear hz' d0 d1 g0
       go_wp2_with fail
       refine (H3.out _ (HE.out.below HB.out)).mono ?_
       rintro e w4 ⟨rfl, hb4⟩
       obtain ⟨hz', d0, d1, g0⟩ := zCa hb4 (g := w.heap.size) hz c0 c1 f0
       have HB := hid (HB.out.trans (hb4.mono HB.out.size))
       clear c0 c1 f0
       clear hb4 hz
       have hz := hz'
       have c0 := d0
       have c1 := d1
       have f0 := g0
       clear hz' d0 d1 g0
       go_wp2_with fail
       refine (H4.out _ (HE.out.below HB.out)).mono ?_
       rintro e w5 ⟨rfl, hb5⟩
       obtain ⟨hz', d0, d1, g0⟩ := zCa hb5 (g := w.heap.size) hz c0 c1 f0
       have HB := hid (HB.out.trans (hb5.mono HB.out.size))
       clear c0 c1 f0
       clear hb5 hz
       have hz := hz'
       have c0 := d0
       have c1 := d1
       have f0 := g0
       clear hz' d0 d1 g0
       go_wp2_with fail
       refine bodyPost_ret (v := .tuple #[.agg #[.int .u32 0, .int .u32 0], .bool false]) (by simp [results, Tryz.results229, go_sem, *]) rfl ⟨by rw [HF.out]; rfl, ?_⟩
       exact (HB.out.setCell (Nat.le_refl _) _).setCell (Nat.le_refl _) _
theorem zCw (b B : Nat) (p : Ps) (w : World) (h : WSt 131 b B p w) (he : EnvA B w) (hs : p.short) : Calls Tryz.prog 178 #[.pointer (some ⟨b, 0, none⟩)] w (WPost 131 b B (.agg #[.int .u32 ((wiV p).1 : Int), .int .u32 ((wiV p).2 : Int)]) (wiS p) w) := by
 have hB := h.1
 have hlt := h.lt
 have hss := zJg hs
 have H := hid h
 have HE := hid he
 have HN := hid (fun w h => zBc b B p w h)
 have HM := hid (fun p ok w h => zCy b B p ok w h)
 have HK : Hid (∀ w, Env w → Calls Tryz.prog 229 #[.string (str (wV p))] w fun e w' => e = .returned (.tuple #[.agg #[.int .u32 ((wiV p).1 : Int), .int .u32 ((wiV p).2 : Int)], .bool (wildA (wV p)).isSome]) ∧ Below w.heap.size w w') := hid (fun w he => zJy (wV p) w he (by rw [zEj] at hss; exact hss))
 unfold strV at HN
 have E : Hid (wiS p = mustS (wildA (wV p)).isSome (wS p)) := hid rfl
 clear h he hs hss
 generalize (((wiV p).1 : Int) : Int) = va at HK ⊢
 generalize (((wiV p).2 : Int) : Int) = vb at HK ⊢
 generalize (wildA (wV p)).isSome = vo at HK E
 go_enter Tryz.func178, Tryz.ntmps178
 go_wp2_with fail
 refine (HN.out _ (H.out.keep ((Below.refl _ w).alloc (Nat.le_refl _) _))).mono ?_
 rintro e w1 ⟨rfl, h1, k1⟩
 have H1 := hid h1
 obtain ⟨hz1, c0, c1, f0⟩ := zJz k1 hlt
 have K1 := hid ((World.grownBy_alloc w _ _).trans k1)
 have HE1 := hid ((HE.out.keep ((Below.refl B w).alloc (by omega) _)).on k1 hB (by simp; omega))
 clear h1 k1
 go_wp2_with fail
 refine (HK.out w1 HE1.out.1).mono ?_
 rintro e w2 ⟨rfl, hb2⟩
 obtain ⟨hz2, d0, d1, g0⟩ := zCa hb2 hz1 c0 c1 f0
 have H2 := hid (H1.out.keep hb2)
 have K2 := hid (zCu K1.out (hb2.mono (by omega)))
 clear hb2 c0 c1 f0
 have c0' := zAx hz2 d0
 have c1' := zAx hz2 d1
 have f0' := zBy hz2 g0
 clear d0 d1 g0
 go_wp2_with fail
 refine (HM.out _ _ _ (H2.out.keep ((Below.refl _ w2).alloc (Nat.le_refl _) _))).mono ?_
 rintro e w3 ⟨rfl, h3, k3⟩
 obtain ⟨hz3, e0, e1, g3⟩ := zJz k3 (by omega)
 obtain ⟨hz4, r0, r1, g4⟩ := far_on k3 (g := w.heap.size) (by simp; omega) (by omega) (c0' _) (c1' _) (f0' _)
 have H3 := hid h3
 have K3 := hid ((K2.out.trans (World.grownBy_alloc w2 _ _)).trans k3)
 clear h3 k3 c0' c1' f0'
 go_wp2_with fail
 refine bodyPost_ret (v := .agg #[.int .u32 va, .int .u32 vb]) (by simp [results, Tryz.results178, go_sem, *]) rfl ⟨rfl, ?_⟩
 rw [E.out]
 exact wbox_end H3.out K3.out hlt _ _
structure Cm (E : TypeId) (g o : Nat) (cur : Array Value) (T : TypeId) (b B : Nat) (w0 : World) (cs : Array Value) (p : Ps) (w : World) : Prop where
 part : Part E g o cur cs w
 st : WSt T b B p w
 fr : Fr [g, b] w0 w
 gb : g ≠ b
 gB : B ≤ g
 bB : B ≤ w0.heap.size
section
variable {E T : TypeId} {g o b B : Nat} {cur cs : Array Value} {p p' : Ps} {w0 w w' : World}
theorem Cm.start (h1 : Part E g o cur cs w) (h2 : WSt T b B p w) (h3 : g ≠ b) (h4 : B ≤ g) : Cm E g o cur T b B w cs p w := ⟨h1, h2, Fr.refl _ _, h3, h4, by have := h1.lt; omega⟩
theorem Cm.put (h : Cm E g o cur T b B w0 cs p w) {cs' : Array Value} {j : Nat} (hj : j < cs.size) (v : Value) (e : cs.setIfInBounds j v = cs') : Cm E g o cur T b B w0 cs' p (w.setCell ⟨g, o + j, none⟩ v) :=
 ⟨h.part.put hj v e, h.st.other (zBj w g (o + j) v) (fun k hk => by cases hk; exact ⟨h.gB, h.gb⟩), h.fr.trans (Fr.set w (by simp) _ _), h.gb, h.gB, h.bB⟩
theorem Cm.word (h : Cm E g o cur T b B w0 cs p w) (hs : WSt T b B p' w') (hg : w.grownBy w' (some b)) : Cm E g o cur T b B w0 cs p' w' :=
 ⟨h.part.frame hg (fun e => h.gb (by injection e with e; exact e.symm)), hs, h.fr.trans (Fr.ofOne hg (by simp)), h.gb, h.gB, h.bB⟩
theorem Cm.cell (h : Cm E g o cur T b B w0 cs p w) {j : Nat} (hj : j < cs.size) : ∃ v, w.cell? ⟨g, o + j, none⟩ = some v := ⟨cs[j], by rw [h.part.cell hj, Array.getElem?_eq_getElem hj]⟩
theorem Cm.frz (h : Cm E g o cur T b B w0 cs p w) (j : Nat) : w.frozen? ⟨g, o + j, none⟩ = false := h.part.frz _
theorem Cm.env (h : Cm E g o cur T b B w0 cs p w) (he : EnvA B w0) : EnvA B w :=
 he.keep (h.fr.below (fun k hk => by
  have hb := h.st.1
  have hg := h.gB
  simp only [List.mem_cons, List.not_mem_nil, or_false] at hk
  rcases hk with rfl | rfl <;> assumption) h.bB)
end
def CPost (E : TypeId) (g o : Nat) (cur : Array Value) (T : TypeId) (b B : Nat) (w0 : World) (cs : Array Value) (p : Ps) (e : Ending) (w : World) : Prop := e = .returned (.tuple #[]) ∧ Cm E g o cur T b B w0 cs p w
theorem zGm {p : Ps} (x : List UInt8) (h : p.short) : (optS x p).short := by
 unfold optS; split
 ·exact fun f hf => h f (List.mem_of_mem_tail hf)
 ·exact h
theorem zFg {p : Ps} (h : p.short) : (wS p).short := by
 obtain ⟨fs, bad⟩ := p
 cases fs with
 | nil => exact h
 | cons f r => exact fun x hx => h x (List.mem_cons_of_mem _ hx)
theorem zEs {p : Ps} (c : Bool) (h : p.short) : (mustS c p).short := by
 unfold mustS; split <;> exact h
theorem zHz (g o b B : Nat) (cur : Array Value) (x : If) (word : List UInt8) (no : Bool) (p : Ps) (w : World) (h : Cm 68 g o cur 131 b B w x.C p w) (he : EnvA B w) (hs : p.short) :
  Calls Tryz.prog 94 #[.pointer (some ⟨g, o, none⟩), .string (str word), .bool no, .pointer (some ⟨b, 0, none⟩)] w (CPost 68 g o cur 131 b B w (ifCmd x word no p).1.C (ifCmd x word no p).2) := by
 have H := hid h
 have HE := hid he
 have HS := hid hs
 have f0 := h.frz
 clear h he hs
 have q0 : ((str word).toList == [97, 100, 100, 114, 101, 115, 115]) = (word == [97, 100, 100, 114, 101, 115, 115]) := by rw [zAb]
 have q1 : ((str word).toList == [118, 108, 97, 110]) = (word == [118, 108, 97, 110]) := by rw [zAb]
 have q2 : ((str word).toList == [115, 104, 117, 116, 100, 111, 119, 110]) = (word == [115, 104, 117, 116, 100, 111, 119, 110]) := by rw [zAb]
 have q3 : ((str word).toList == [108, 115]) = (word == [108, 115]) := by rw [zAb]
 have q4 : ((str word).toList == [100, 118]) = (word == [100, 118]) := by rw [zAb]
 have q5 : ((str word).toList == [105, 110]) = (word == [105, 110]) := by rw [zAb]
 have q6 : ((str word).toList == [111, 117, 116]) = (word == [111, 117, 116]) := by rw [zAb]
 have q7 : ((str word).toList == [115, 105, 100, 101]) = (word == [115, 105, 100, 101]) := by rw [zAb]
 cases e0 : (word == [97, 100, 100, 114, 101, 115, 115]) with
 | true =>
  rw [e0] at q0
  cases no with
  | true =>
   have E : Hid (ifCmd x word true p = ({ x with addr := 0, len := 0 }, p)) := hid (by unfold ifCmd; rw [e0]; rfl)
   obtain ⟨v1, c1⟩ := H.out.cell (j := 1) (show 1 < 12 from by decide)
   obtain ⟨v2, c2⟩ := H.out.cell (j := 2) (show 2 < 12 from by decide)
   go_enter Tryz.func94, Tryz.ntmps94
   go_wp2_with fail
   go_end0
   exact ⟨rfl, by rw [E.out]; exact ((H.out.put (j := 1) (show 1 < 12 from by decide) _ rfl).put (j := 2) (show 2 < 12 from by decide) _ rfl)⟩
  | false =>
   have E : Hid (ifCmd x word false p = ({ x with addr := (hoV p).1, len := (hoV p).2 }, hoS p)) := hid (by unfold ifCmd; rw [e0]; rfl)
   obtain ⟨v1, c1⟩ := H.out.cell (j := 1) (show 1 < 12 from by decide)
   obtain ⟨v2, c2⟩ := H.out.cell (j := 2) (show 2 < 12 from by decide)
   go_enter Tryz.func94, Tryz.ntmps94
   go_wp2_with fail
   refine (whost_any b B p _ ((H.out.put (j := 1) (show 1 < 12 from by decide) _ rfl).put (j := 2) (show 2 < 12 from by decide) _ rfl).st (((H.out.put (j := 1) (show 1 < 12 from by decide) _ rfl).put (j := 2) (show 2 < 12 from by decide) _ rfl).env HE.out) HS.out).mono ?_
   rintro e w1 ⟨rfl, h1, k1⟩
   have H1 := hid (((H.out.put (j := 1) (show 1 < 12 from by decide) _ rfl).put (j := 2) (show 2 < 12 from by decide) _ rfl).word h1 k1)
   have f1 := H1.out.frz
   clear h1 k1
   obtain ⟨v1, c1⟩ := H1.out.cell (j := 1) (show 1 < 12 from by decide)
   obtain ⟨v2, c2⟩ := H1.out.cell (j := 2) (show 2 < 12 from by decide)
   go_wp2_with fail
   go_end0
   exact ⟨rfl, by rw [E.out]; exact ((H1.out.put (j := 1) (show 1 < 12 from by decide) _ rfl).put (j := 2) (show 2 < 12 from by decide) _ rfl)⟩
 | false =>
  cases e1 : (word == [118, 108, 97, 110]) with
  | true =>
   rw [e0] at q0
   rw [e1] at q1
   cases no with
   | true =>
    have E : Hid (ifCmd x word true p = ({ x with vlan := 0 }, p)) := hid (by unfold ifCmd; rw [e0, e1]; rfl)
    obtain ⟨v3, c3⟩ := H.out.cell (j := 3) (show 3 < 12 from by decide)
    go_enter Tryz.func94, Tryz.ntmps94
    go_wp2_with fail
    go_end0
    exact ⟨rfl, by rw [E.out]; exact (H.out.put (j := 3) (show 3 < 12 from by decide) _ rfl)⟩
   | false =>
    have E : Hid (ifCmd x word false p = ({ x with vlan := noV 0 4094 p }, noS 0 4094 p)) := hid (by unfold ifCmd; rw [e0, e1]; rfl)
    obtain ⟨v3, c3⟩ := H.out.cell (j := 3) (show 3 < 12 from by decide)
    go_enter Tryz.func94, Tryz.ntmps94
    go_wp2_with fail
    refine (zAo b B p 0 4094 _ (H.out.put (j := 3) (show 3 < 12 from by decide) _ rfl).st).mono ?_
    rintro e w1 ⟨rfl, h1, k1⟩
    have H1 := hid ((H.out.put (j := 3) (show 3 < 12 from by decide) _ rfl).word h1 k1)
    have f1 := H1.out.frz
    clear h1 k1
    obtain ⟨v3, c3⟩ := H1.out.cell (j := 3) (show 3 < 12 from by decide)
    go_wp2_with fail
    go_end0
    exact ⟨rfl, by rw [E.out]; exact (H1.out.put (j := 3) (show 3 < 12 from by decide) _ rfl)⟩
  | false =>
   cases e2 : (word == [115, 104, 117, 116, 100, 111, 119, 110]) with
   | true =>
    rw [e0] at q0
    rw [e1] at q1
    rw [e2] at q2
    cases no with
    | true =>
     have E : Hid (ifCmd x word true p = ({ x with down := false }, p)) := hid (by unfold ifCmd; rw [e0, e1, e2]; rfl)
     obtain ⟨v4, c4⟩ := H.out.cell (j := 4) (show 4 < 12 from by decide)
     go_enter Tryz.func94, Tryz.ntmps94
     go_wp2_with fail
     go_end0
     exact ⟨rfl, by rw [E.out]; exact (H.out.put (j := 4) (show 4 < 12 from by decide) _ rfl)⟩
    | false =>
     have E : Hid (ifCmd x word false p = ({ x with down := true }, p)) := hid (by unfold ifCmd; rw [e0, e1, e2]; rfl)
     obtain ⟨v4, c4⟩ := H.out.cell (j := 4) (show 4 < 12 from by decide)
     go_enter Tryz.func94, Tryz.ntmps94
     go_wp2_with fail
     go_end0
     exact ⟨rfl, by rw [E.out]; exact (H.out.put (j := 4) (show 4 < 12 from by decide) _ rfl)⟩
   | false =>
    cases e3 : (word == [108, 115]) with
    | true =>
     rw [e0] at q0
     rw [e1] at q1
     rw [e2] at q2
     rw [e3] at q3
     cases no with
     | true =>
      have E : Hid (ifCmd x word true p = ({ x with ls := false, area := 0, cost := 0 }, p)) := hid (by unfold ifCmd; rw [e0, e1, e2, e3]; rfl)
      obtain ⟨v5, c5⟩ := H.out.cell (j := 5) (show 5 < 12 from by decide)
      obtain ⟨v6, c6⟩ := H.out.cell (j := 6) (show 6 < 12 from by decide)
      obtain ⟨v7, c7⟩ := H.out.cell (j := 7) (show 7 < 12 from by decide)
      go_enter Tryz.func94, Tryz.ntmps94
      go_wp2_with fail
      go_end0
      exact ⟨rfl, by rw [E.out]; exact (((H.out.put (j := 5) (show 5 < 12 from by decide) _ rfl).put (j := 6) (show 6 < 12 from by decide) _ rfl).put (j := 7) (show 7 < 12 from by decide) _ rfl)⟩
     | false =>
      cases c : isW [99, 111, 115, 116] (noS 0 255 (mustS (isW [97, 114, 101, 97] p) (optS [97, 114, 101, 97] p))) with
      | true =>
       have HC := hid c
       have E : Hid (ifCmd x word false p = ({ x with ls := true, area := noV 0 255 (mustS (isW [97, 114, 101, 97] p) (optS [97, 114, 101, 97] p)), cost := noV 1 65535 (optS [99, 111, 115, 116] (noS 0 255 (mustS (isW [97, 114, 101, 97] p) (optS [97, 114, 101, 97] p)))) }, noS 1 65535 (optS [99, 111, 115, 116] (noS 0 255 (mustS (isW [97, 114, 101, 97] p) (optS [97, 114, 101, 97] p)))))) := hid (by unfold ifCmd; rw [e0, e1, e2, e3]; show (if isW [99, 111, 115, 116] (noS 0 255 (mustS (isW [97, 114, 101, 97] p) (optS [97, 114, 101, 97] p))) = true then _ else _) = _; rw [c]; rfl)
       obtain ⟨v5, c5⟩ := H.out.cell (j := 5) (show 5 < 12 from by decide)
       obtain ⟨v6, c6⟩ := H.out.cell (j := 6) (show 6 < 12 from by decide)
       obtain ⟨v7, c7⟩ := H.out.cell (j := 7) (show 7 < 12 from by decide)
       go_enter Tryz.func94, Tryz.ntmps94
       go_wp2_with fail
       refine (zAl b B p [97, 114, 101, 97] _ (((H.out.put (j := 5) (show 5 < 12 from by decide) _ rfl).put (j := 6) (show 6 < 12 from by decide) _ rfl).put (j := 7) (show 7 < 12 from by decide) _ rfl).st).mono ?_
       rintro e w1 ⟨rfl, h1, k1⟩
       have H1 := hid ((((H.out.put (j := 5) (show 5 < 12 from by decide) _ rfl).put (j := 6) (show 6 < 12 from by decide) _ rfl).put (j := 7) (show 7 < 12 from by decide) _ rfl).word h1 k1)
       have f1 := H1.out.frz
       clear h1 k1
       go_wp2_with fail
       refine (zCy b B (optS [97, 114, 101, 97] p) _ _ H1.out.st).mono ?_
       rintro e w2 ⟨rfl, h2, k2⟩
       have H2 := hid (H1.out.word h2 k2)
       have f2 := H2.out.frz
       clear h2 k2
       go_wp2_with fail
       refine (zAo b B (mustS _ (optS [97, 114, 101, 97] p)) 0 255 _ H2.out.st).mono ?_
       rintro e w3 ⟨rfl, h3, k3⟩
       have H3 := hid (H2.out.word h3 k3)
       have f3 := H3.out.frz
       clear h3 k3
       obtain ⟨v6, c6⟩ := H3.out.cell (j := 6) (show 6 < 12 from by decide)
       obtain ⟨v7, c7⟩ := H3.out.cell (j := 7) (show 7 < 12 from by decide)
       go_wp2_with fail
       refine (zAl b B (noS 0 255 (mustS _ (optS [97, 114, 101, 97] p))) [99, 111, 115, 116] _ ((H3.out.put (j := 6) (show 6 < 12 from by decide) _ rfl).put (j := 7) (show 7 < 12 from by decide) _ rfl).st).mono ?_
       rintro e w4 ⟨rfl, h4, k4⟩
       have H4 := hid (((H3.out.put (j := 6) (show 6 < 12 from by decide) _ rfl).put (j := 7) (show 7 < 12 from by decide) _ rfl).word h4 k4)
       have f4 := H4.out.frz
       clear h4 k4
       rw [HC.out]
       go_wp2_with fail
       refine (zAo b B (optS [99, 111, 115, 116] (noS 0 255 (mustS _ (optS [97, 114, 101, 97] p)))) 1 65535 _ H4.out.st).mono ?_
       rintro e w5 ⟨rfl, h5, k5⟩
       have H5 := hid (H4.out.word h5 k5)
       have f5 := H5.out.frz
       clear h5 k5
       obtain ⟨v7, c7⟩ := H5.out.cell (j := 7) (show 7 < 12 from by decide)
       go_wp2_with fail
       go_end0
       exact ⟨rfl, by rw [E.out]; exact (H5.out.put (j := 7) (show 7 < 12 from by decide) _ rfl)⟩
      | false =>
       have HC := hid c
       have E : Hid (ifCmd x word false p = ({ x with ls := true, area := noV 0 255 (mustS (isW [97, 114, 101, 97] p) (optS [97, 114, 101, 97] p)), cost := 10 }, (noS 0 255 (mustS (isW [97, 114, 101, 97] p) (optS [97, 114, 101, 97] p))))) := hid (by unfold ifCmd; rw [e0, e1, e2, e3]; show (if isW [99, 111, 115, 116] (noS 0 255 (mustS (isW [97, 114, 101, 97] p) (optS [97, 114, 101, 97] p))) = true then _ else _) = _; rw [c]; rfl)
       obtain ⟨v5, c5⟩ := H.out.cell (j := 5) (show 5 < 12 from by decide)
       obtain ⟨v6, c6⟩ := H.out.cell (j := 6) (show 6 < 12 from by decide)
       obtain ⟨v7, c7⟩ := H.out.cell (j := 7) (show 7 < 12 from by decide)
       go_enter Tryz.func94, Tryz.ntmps94
       go_wp2_with fail
       refine (zAl b B p [97, 114, 101, 97] _ (((H.out.put (j := 5) (show 5 < 12 from by decide) _ rfl).put (j := 6) (show 6 < 12 from by decide) _ rfl).put (j := 7) (show 7 < 12 from by decide) _ rfl).st).mono ?_
       rintro e w1 ⟨rfl, h1, k1⟩
       have H1 := hid ((((H.out.put (j := 5) (show 5 < 12 from by decide) _ rfl).put (j := 6) (show 6 < 12 from by decide) _ rfl).put (j := 7) (show 7 < 12 from by decide) _ rfl).word h1 k1)
       have f1 := H1.out.frz
       clear h1 k1
       go_wp2_with fail
       refine (zCy b B (optS [97, 114, 101, 97] p) _ _ H1.out.st).mono ?_
       rintro e w2 ⟨rfl, h2, k2⟩
       have H2 := hid (H1.out.word h2 k2)
       have f2 := H2.out.frz
       clear h2 k2
       go_wp2_with fail
       refine (zAo b B (mustS _ (optS [97, 114, 101, 97] p)) 0 255 _ H2.out.st).mono ?_
       rintro e w3 ⟨rfl, h3, k3⟩
       have H3 := hid (H2.out.word h3 k3)
       have f3 := H3.out.frz
       clear h3 k3
       obtain ⟨v6, c6⟩ := H3.out.cell (j := 6) (show 6 < 12 from by decide)
       obtain ⟨v7, c7⟩ := H3.out.cell (j := 7) (show 7 < 12 from by decide)
       go_wp2_with fail
       refine (zAl b B (noS 0 255 (mustS _ (optS [97, 114, 101, 97] p))) [99, 111, 115, 116] _ ((H3.out.put (j := 6) (show 6 < 12 from by decide) _ rfl).put (j := 7) (show 7 < 12 from by decide) _ rfl).st).mono ?_
       rintro e w4 ⟨rfl, h4, k4⟩
       have H4 := hid (((H3.out.put (j := 6) (show 6 < 12 from by decide) _ rfl).put (j := 7) (show 7 < 12 from by decide) _ rfl).word h4 k4)
       have f4 := H4.out.frz
       clear h4 k4
       rw [HC.out]
       go_wp2_with fail
       go_end0
       exact ⟨rfl, by rw [E.out]; have q := H4.out; rw [zBx HC.out] at q; exact q⟩
    | false =>
     cases e4 : (word == [100, 118]) with
     | true =>
      rw [e0] at q0
      rw [e1] at q1
      rw [e2] at q2
      rw [e3] at q3
      rw [e4] at q4
      cases no with
      | true =>
       have E : Hid (ifCmd x word true p = ({ x with dv := false }, p)) := hid (by unfold ifCmd; rw [e0, e1, e2, e3, e4]; rfl)
       obtain ⟨v8, c8⟩ := H.out.cell (j := 8) (show 8 < 12 from by decide)
       go_enter Tryz.func94, Tryz.ntmps94
       go_wp2_with fail
       go_end0
       exact ⟨rfl, by rw [E.out]; exact (H.out.put (j := 8) (show 8 < 12 from by decide) _ rfl)⟩
      | false =>
       have E : Hid (ifCmd x word false p = ({ x with dv := true }, p)) := hid (by unfold ifCmd; rw [e0, e1, e2, e3, e4]; rfl)
       obtain ⟨v8, c8⟩ := H.out.cell (j := 8) (show 8 < 12 from by decide)
       go_enter Tryz.func94, Tryz.ntmps94
       go_wp2_with fail
       go_end0
       exact ⟨rfl, by rw [E.out]; exact (H.out.put (j := 8) (show 8 < 12 from by decide) _ rfl)⟩
     | false =>
      cases e5 : (word == [105, 110]) with
      | true =>
       rw [e0] at q0
       rw [e1] at q1
       rw [e2] at q2
       rw [e3] at q3
       rw [e4] at q4
       rw [e5] at q5
       cases no with
       | true =>
        have E : Hid (ifCmd x word true p = ({ x with inn := [] }, p)) := hid (by unfold ifCmd; rw [e0, e1, e2, e3, e4, e5]; rfl)
        obtain ⟨v9, c9⟩ := H.out.cell (j := 9) (show 9 < 12 from by decide)
        go_enter Tryz.func94, Tryz.ntmps94
        go_wp2_with fail
        go_end0
        exact ⟨rfl, by rw [E.out]; exact (H.out.put (j := 9) (show 9 < 12 from by decide) _ rfl)⟩
       | false =>
        have E : Hid (ifCmd x word false p = ({ x with inn := nmV p }, nmS p)) := hid (by unfold ifCmd; rw [e0, e1, e2, e3, e4, e5]; rfl)
        obtain ⟨v9, c9⟩ := H.out.cell (j := 9) (show 9 < 12 from by decide)
        go_enter Tryz.func94, Tryz.ntmps94
        go_wp2_with fail
        refine (zBb b B p _ (H.out.put (j := 9) (show 9 < 12 from by decide) _ rfl).st).mono ?_
        rintro e w1 ⟨rfl, h1, k1⟩
        have H1 := hid ((H.out.put (j := 9) (show 9 < 12 from by decide) _ rfl).word h1 k1)
        have f1 := H1.out.frz
        clear h1 k1
        unfold strV
        obtain ⟨v9, c9⟩ := H1.out.cell (j := 9) (show 9 < 12 from by decide)
        go_wp2_with fail
        go_end0
        exact ⟨rfl, by rw [E.out]; exact (H1.out.put (j := 9) (show 9 < 12 from by decide) _ rfl)⟩
      | false =>
       cases e6 : (word == [111, 117, 116]) with
       | true =>
        rw [e0] at q0
        rw [e1] at q1
        rw [e2] at q2
        rw [e3] at q3
        rw [e4] at q4
        rw [e5] at q5
        rw [e6] at q6
        cases no with
        | true =>
         have E : Hid (ifCmd x word true p = ({ x with out := [] }, p)) := hid (by unfold ifCmd; rw [e0, e1, e2, e3, e4, e5, e6]; rfl)
         obtain ⟨v10, c10⟩ := H.out.cell (j := 10) (show 10 < 12 from by decide)
         go_enter Tryz.func94, Tryz.ntmps94
         go_wp2_with fail
         go_end0
         exact ⟨rfl, by rw [E.out]; exact (H.out.put (j := 10) (show 10 < 12 from by decide) _ rfl)⟩
        | false =>
         have E : Hid (ifCmd x word false p = ({ x with out := nmV p }, nmS p)) := hid (by unfold ifCmd; rw [e0, e1, e2, e3, e4, e5, e6]; rfl)
         obtain ⟨v10, c10⟩ := H.out.cell (j := 10) (show 10 < 12 from by decide)
         go_enter Tryz.func94, Tryz.ntmps94
         go_wp2_with fail
         refine (zBb b B p _ (H.out.put (j := 10) (show 10 < 12 from by decide) _ rfl).st).mono ?_
         rintro e w1 ⟨rfl, h1, k1⟩
         have H1 := hid ((H.out.put (j := 10) (show 10 < 12 from by decide) _ rfl).word h1 k1)
         have f1 := H1.out.frz
         clear h1 k1
         unfold strV
         obtain ⟨v10, c10⟩ := H1.out.cell (j := 10) (show 10 < 12 from by decide)
         go_wp2_with fail
         go_end0
         exact ⟨rfl, by rw [E.out]; exact (H1.out.put (j := 10) (show 10 < 12 from by decide) _ rfl)⟩
       | false =>
        cases e7 : (word == [115, 105, 100, 101]) with
        | true =>
         rw [e0] at q0
         rw [e1] at q1
         rw [e2] at q2
         rw [e3] at q3
         rw [e4] at q4
         rw [e5] at q5
         rw [e6] at q6
         rw [e7] at q7
         cases no with
         | true =>
          have E : Hid (ifCmd x word true p = ({ x with side := 0 }, p)) := hid (by unfold ifCmd; rw [e0, e1, e2, e3, e4, e5, e6, e7]; rfl)
          obtain ⟨v11, c11⟩ := H.out.cell (j := 11) (show 11 < 12 from by decide)
          go_enter Tryz.func94, Tryz.ntmps94
          go_wp2_with fail
          go_end0
          exact ⟨rfl, by rw [E.out]; exact (H.out.put (j := 11) (show 11 < 12 from by decide) _ rfl)⟩
         | false =>
          cases c : chB [105, 110, 115, 105, 100, 101] [111, 117, 116, 115, 105, 100, 101] p with
          | true =>
           have HC := hid c
           have E : Hid (ifCmd x word false p = ({ x with side := 1 }, chS [105, 110, 115, 105, 100, 101] [111, 117, 116, 115, 105, 100, 101] p)) := hid (by unfold ifCmd; rw [e0, e1, e2, e3, e4, e5, e6, e7, c]; rfl)
           obtain ⟨v11, c11⟩ := H.out.cell (j := 11) (show 11 < 12 from by decide)
           go_enter Tryz.func94, Tryz.ntmps94
           go_wp2_with fail
           refine (zBg b B p [105, 110, 115, 105, 100, 101] [111, 117, 116, 115, 105, 100, 101] _ ((H.out.put (j := 11) (show 11 < 12 from by decide) _ rfl).put (j := 11) (show 11 < 12 from by decide) _ rfl).st).mono ?_
           rintro e w1 ⟨rfl, h1, k1⟩
           have H1 := hid (((H.out.put (j := 11) (show 11 < 12 from by decide) _ rfl).put (j := 11) (show 11 < 12 from by decide) _ rfl).word h1 k1)
           have f1 := H1.out.frz
           clear h1 k1
           rw [HC.out]
           obtain ⟨v11, c11⟩ := H1.out.cell (j := 11) (show 11 < 12 from by decide)
           go_wp2_with fail
           go_end0
           exact ⟨rfl, by rw [E.out]; exact (H1.out.put (j := 11) (show 11 < 12 from by decide) _ rfl)⟩
          | false =>
           have HC := hid c
           have E : Hid (ifCmd x word false p = ({ x with side := 2 }, chS [105, 110, 115, 105, 100, 101] [111, 117, 116, 115, 105, 100, 101] p)) := hid (by unfold ifCmd; rw [e0, e1, e2, e3, e4, e5, e6, e7, c]; rfl)
           obtain ⟨v11, c11⟩ := H.out.cell (j := 11) (show 11 < 12 from by decide)
           go_enter Tryz.func94, Tryz.ntmps94
           go_wp2_with fail
           refine (zBg b B p [105, 110, 115, 105, 100, 101] [111, 117, 116, 115, 105, 100, 101] _ ((H.out.put (j := 11) (show 11 < 12 from by decide) _ rfl).put (j := 11) (show 11 < 12 from by decide) _ rfl).st).mono ?_
           rintro e w1 ⟨rfl, h1, k1⟩
           have H1 := hid (((H.out.put (j := 11) (show 11 < 12 from by decide) _ rfl).put (j := 11) (show 11 < 12 from by decide) _ rfl).word h1 k1)
           have f1 := H1.out.frz
           clear h1 k1
           rw [HC.out]
           go_wp2_with fail
           go_end0
           exact ⟨rfl, by rw [E.out]; exact H1.out⟩
        | false =>
         rw [e0] at q0
         rw [e1] at q1
         rw [e2] at q2
         rw [e3] at q3
         rw [e4] at q4
         rw [e5] at q5
         rw [e6] at q6
         rw [e7] at q7
         have E : Hid (ifCmd x word no p = (x, p)) := hid (by unfold ifCmd; rw [e0, e1, e2, e3, e4, e5, e6, e7]; rfl)
         go_enter Tryz.func94, Tryz.ntmps94
         go_wp2_with fail
         go_end0
         exact ⟨rfl, by rw [E.out]; exact H.out⟩
theorem zJu (g o b B : Nat) (cur : Array Value) (x : Cl) (word : List UInt8) (no : Bool) (p : Ps) (w : World) (h : Cm 101 g o cur 131 b B w x.C p w) :
  Calls Tryz.prog 95 #[.pointer (some ⟨g, o, none⟩), .string (str word), .bool no, .pointer (some ⟨b, 0, none⟩)] w (CPost 101 g o cur 131 b B w (clCmd x word no p).1.C (clCmd x word no p).2) := by
 have H := hid h
 have f0 := h.frz
 clear h
 have q0 : ((str word).toList == [109, 97, 116, 99, 104]) = (word == [109, 97, 116, 99, 104]) := by rw [zAb]
 have q1 : ((str word).toList == [115, 101, 116]) = (word == [115, 101, 116]) := by rw [zAb]
 have q2 : ((str word).toList == [112, 114, 101, 112, 101, 110, 100]) = (word == [112, 114, 101, 112, 101, 110, 100]) := by rw [zAb]
 have r0 : ((str (wV p)).toList == [109, 101, 116, 114, 105, 99]) = (wV p == [109, 101, 116, 114, 105, 99]) := by rw [zAb]
 have r1 : ((str (wV p)).toList == [116, 97, 103]) = (wV p == [116, 97, 103]) := by rw [zAb]
 have r2 : ((str (wV p)).toList == [112, 114, 101, 102, 101, 114, 101, 110, 99, 101]) = (wV p == [112, 114, 101, 102, 101, 114, 101, 110, 99, 101]) := by rw [zAb]
 cases e0 : (word == [109, 97, 116, 99, 104]) with
 | true =>
  rw [e0] at q0
  cases no with
  | true =>
   have E : Hid (clCmd x word true p = ({ x with list := [], tag := -1 }, p)) := hid (by unfold clCmd; rw [e0]; rfl)
   obtain ⟨v1, c1⟩ := H.out.cell (j := 1) (show 1 < 7 from by decide)
   obtain ⟨v2, c2⟩ := H.out.cell (j := 2) (show 2 < 7 from by decide)
   go_enter Tryz.func95, Tryz.ntmps95
   go_wp2_with fail
   go_end0
   exact ⟨rfl, by rw [E.out]; exact ((H.out.put (j := 1) (show 1 < 7 from by decide) _ rfl).put (j := 2) (show 2 < 7 from by decide) _ rfl)⟩
  | false =>
   cases c : chB [108, 105, 115, 116] [116, 97, 103] p with
   | true =>
    have HC := hid c
    have E : Hid (clCmd x word false p = ({ x with list := nmV (chS [108, 105, 115, 116] [116, 97, 103] p) }, nmS (chS [108, 105, 115, 116] [116, 97, 103] p))) := hid (by unfold clCmd; rw [e0, c]; rfl)
    go_enter Tryz.func95, Tryz.ntmps95
    go_wp2_with fail
    refine (zBg b B p [108, 105, 115, 116] [116, 97, 103] _ H.out.st).mono ?_
    rintro e w1 ⟨rfl, h1, k1⟩
    have H1 := hid (H.out.word h1 k1)
    have f1 := H1.out.frz
    clear h1 k1
    rw [HC.out]
    go_wp2_with fail
    refine (zBb b B (chS [108, 105, 115, 116] [116, 97, 103] p) _ H1.out.st).mono ?_
    rintro e w2 ⟨rfl, h2, k2⟩
    have H2 := hid (H1.out.word h2 k2)
    have f2 := H2.out.frz
    clear h2 k2
    unfold strV
    obtain ⟨v1, c1⟩ := H2.out.cell (j := 1) (show 1 < 7 from by decide)
    go_wp2_with fail
    go_end0
    exact ⟨rfl, by rw [E.out]; exact (H2.out.put (j := 1) (show 1 < 7 from by decide) _ rfl)⟩
   | false =>
    have HC := hid c
    have E : Hid (clCmd x word false p = ({ x with tag := noV 0 65535 (chS [108, 105, 115, 116] [116, 97, 103] p) }, noS 0 65535 (chS [108, 105, 115, 116] [116, 97, 103] p))) := hid (by unfold clCmd; rw [e0, c]; rfl)
    go_enter Tryz.func95, Tryz.ntmps95
    go_wp2_with fail
    refine (zBg b B p [108, 105, 115, 116] [116, 97, 103] _ H.out.st).mono ?_
    rintro e w1 ⟨rfl, h1, k1⟩
    have H1 := hid (H.out.word h1 k1)
    have f1 := H1.out.frz
    clear h1 k1
    rw [HC.out]
    go_wp2_with fail
    refine (zAo b B (chS [108, 105, 115, 116] [116, 97, 103] p) 0 65535 _ H1.out.st).mono ?_
    rintro e w2 ⟨rfl, h2, k2⟩
    have H2 := hid (H1.out.word h2 k2)
    have f2 := H2.out.frz
    clear h2 k2
    obtain ⟨v2, c2⟩ := H2.out.cell (j := 2) (show 2 < 7 from by decide)
    go_wp2_with fail
    go_end0
    exact ⟨rfl, by rw [E.out]; exact (H2.out.put (j := 2) (show 2 < 7 from by decide) _ rfl)⟩
 | false =>
  rw [e0] at q0
  cases e1 : (word == [115, 101, 116]) with
  | true =>
   rw [e1] at q1
   cases no with
   | true =>
    have E : Hid (clCmd x word true p = ({ x with setM := -1, setT := -1, setP := -1 }, p)) := hid (by unfold clCmd; rw [e0, e1]; rfl)
    obtain ⟨v3, c3⟩ := H.out.cell (j := 3) (show 3 < 7 from by decide)
    obtain ⟨v4, c4⟩ := H.out.cell (j := 4) (show 4 < 7 from by decide)
    obtain ⟨v5, c5⟩ := H.out.cell (j := 5) (show 5 < 7 from by decide)
    go_enter Tryz.func95, Tryz.ntmps95
    go_wp2_with fail
    go_end0
    exact ⟨rfl, by rw [E.out]; exact (((H.out.put (j := 3) (show 3 < 7 from by decide) _ rfl).put (j := 4) (show 4 < 7 from by decide) _ rfl).put (j := 5) (show 5 < 7 from by decide) _ rfl)⟩
   | false =>
    cases d0 : (wV p == [109, 101, 116, 114, 105, 99]) with
    | true =>
     rw [d0] at r0
     have E : Hid (clCmd x word false p = ({ x with setM := noV 0 16777215 (wS p) }, noS 0 16777215 (wS p))) := hid (by unfold clCmd; rw [e0, e1, d0]; rfl)
     go_enter Tryz.func95, Tryz.ntmps95
     go_wp2_with fail
     refine (zBc b B p _ H.out.st).mono ?_
     rintro e w1 ⟨rfl, h1, k1⟩
     have H1 := hid (H.out.word h1 k1)
     have f1 := H1.out.frz
     clear h1 k1
     unfold strV
     go_wp2_with fail
     refine (zAo b B (wS p) 0 16777215 _ H1.out.st).mono ?_
     rintro e w2 ⟨rfl, h2, k2⟩
     have H2 := hid (H1.out.word h2 k2)
     have f2 := H2.out.frz
     clear h2 k2
     obtain ⟨v3, c3⟩ := H2.out.cell (j := 3) (show 3 < 7 from by decide)
     go_wp2_with fail
     go_end0
     exact ⟨rfl, by rw [E.out]; exact (H2.out.put (j := 3) (show 3 < 7 from by decide) _ rfl)⟩
    | false =>
     rw [d0] at r0
     cases d1 : (wV p == [116, 97, 103]) with
     | true =>
      rw [d1] at r1
      have E : Hid (clCmd x word false p = ({ x with setT := noV 0 65535 (wS p) }, noS 0 65535 (wS p))) := hid (by unfold clCmd; rw [e0, e1, d0, d1]; rfl)
      go_enter Tryz.func95, Tryz.ntmps95
      go_wp2_with fail
      refine (zBc b B p _ H.out.st).mono ?_
      rintro e w1 ⟨rfl, h1, k1⟩
      have H1 := hid (H.out.word h1 k1)
      have f1 := H1.out.frz
      clear h1 k1
      unfold strV
      go_wp2_with fail
      refine (zAo b B (wS p) 0 65535 _ H1.out.st).mono ?_
      rintro e w2 ⟨rfl, h2, k2⟩
      have H2 := hid (H1.out.word h2 k2)
      have f2 := H2.out.frz
      clear h2 k2
      obtain ⟨v4, c4⟩ := H2.out.cell (j := 4) (show 4 < 7 from by decide)
      go_wp2_with fail
      go_end0
      exact ⟨rfl, by rw [E.out]; exact (H2.out.put (j := 4) (show 4 < 7 from by decide) _ rfl)⟩
     | false =>
      rw [d1] at r1
      cases d2 : (wV p == [112, 114, 101, 102, 101, 114, 101, 110, 99, 101]) with
      | true =>
       rw [d2] at r2
       have E : Hid (clCmd x word false p = ({ x with setP := noV 0 1000000 (wS p) }, noS 0 1000000 (wS p))) := hid (by unfold clCmd; rw [e0, e1, d0, d1, d2]; rfl)
       go_enter Tryz.func95, Tryz.ntmps95
       go_wp2_with fail
       refine (zBc b B p _ H.out.st).mono ?_
       rintro e w1 ⟨rfl, h1, k1⟩
       have H1 := hid (H.out.word h1 k1)
       have f1 := H1.out.frz
       clear h1 k1
       unfold strV
       go_wp2_with fail
       refine (zAo b B (wS p) 0 1000000 _ H1.out.st).mono ?_
       rintro e w2 ⟨rfl, h2, k2⟩
       have H2 := hid (H1.out.word h2 k2)
       have f2 := H2.out.frz
       clear h2 k2
       obtain ⟨v5, c5⟩ := H2.out.cell (j := 5) (show 5 < 7 from by decide)
       go_wp2_with fail
       go_end0
       exact ⟨rfl, by rw [E.out]; exact (H2.out.put (j := 5) (show 5 < 7 from by decide) _ rfl)⟩
      | false =>
       rw [d2] at r2
       have E : Hid (clCmd x word false p = (x, (wS p).fail)) := hid (by unfold clCmd; rw [e0, e1, d0, d1, d2]; rfl)
       go_enter Tryz.func95, Tryz.ntmps95
       go_wp2_with fail
       refine (zBc b B p _ H.out.st).mono ?_
       rintro e w1 ⟨rfl, h1, k1⟩
       have H1 := hid (H.out.word h1 k1)
       have f1 := H1.out.frz
       clear h1 k1
       unfold strV
       have fb := H1.out.st.frz 1
       have cb := H1.out.st.bad1
       go_wp2_with fail
       go_end0
       exact ⟨rfl, by rw [E.out]; exact (H1.out.word H1.out.st.failed.1 H1.out.st.failed.2)⟩
  | false =>
   rw [e1] at q1
   cases e2 : (word == [112, 114, 101, 112, 101, 110, 100]) with
   | true =>
    rw [e2] at q2
    cases no with
    | true =>
     have E : Hid (clCmd x word true p = (x, p.fail)) := hid (by unfold clCmd; rw [e0, e1, e2]; rfl)
     have fb := H.out.st.frz 1
     have cb := H.out.st.bad1
     go_enter Tryz.func95, Tryz.ntmps95
     go_wp2_with fail
     go_end0
     exact ⟨rfl, by rw [E.out]; exact (H.out.word H.out.st.failed.1 H.out.st.failed.2)⟩
    | false =>
     have E : Hid (clCmd x word false p = ({ x with prep := noV 0 8 p }, noS 0 8 p)) := hid (by unfold clCmd; rw [e0, e1, e2]; rfl)
     go_enter Tryz.func95, Tryz.ntmps95
     go_wp2_with fail
     refine (zAo b B p 0 8 _ H.out.st).mono ?_
     rintro e w1 ⟨rfl, h1, k1⟩
     have H1 := hid (H.out.word h1 k1)
     have f1 := H1.out.frz
     clear h1 k1
     obtain ⟨v6, c6⟩ := H1.out.cell (j := 6) (show 6 < 7 from by decide)
     go_wp2_with fail
     go_end0
     exact ⟨rfl, by rw [E.out]; exact (H1.out.put (j := 6) (show 6 < 7 from by decide) _ rfl)⟩
   | false =>
    rw [e2] at q2
    have E : Hid (clCmd x word no p = (x, p.fail)) := hid (by unfold clCmd; rw [e0, e1, e2]; rfl)
    have fb := H.out.st.frz 1
    have cb := H.out.st.bad1
    go_enter Tryz.func95, Tryz.ntmps95
    go_wp2_with fail
    go_end0
    exact ⟨rfl, by rw [E.out]; exact (H.out.word H.out.st.failed.1 H.out.st.failed.2)⟩
end Go.Proofs.YtoceoaiokkbjeaaGreatDoor
