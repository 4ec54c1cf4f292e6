/- Dialect Beta, plain: nodes, the forms of blocks, what a text means. No condition. -/
import Derived.Test.YtmddfkpkddemnaaGreatDoorUo
import Derived.Deep.RegionWith
import Derived.Test.YtmddfkpkddemnaaGreatDoorUm
import Derived.Test.YtmddfkpkddemnaaGreatDoorUi
namespace Go.Proofs.YtmddfkpkddemnaaGreatDoor
open Go.RowKit
theorem cutL_eq (c : UInt8) : ∀ l : List UInt8, Lib.cut l [c] = cutL c l
  | [] => rfl
  | x :: r => by
    have ih := cutL_eq c r
    have hp : ([c].isPrefixOf (x :: r)) = (c == x) := by
      show (c == x && true) = _
      exact Bool.and_true _
    have hc : (x == c) = (c == x) := BEq.comm
    unfold cutL
    unfold Lib.cut at ih ⊢
    unfold Lib.index
    rw [hp, hc]
    cases h : (c == x) with
    | true => simp
    | false =>
      rw [← ih]
      by_cases h1 : Lib.index r [c] = -1
      · simp [h1]
      · have h2 := Lib.index_ge r [c]
        have h3 : 0 ≤ Lib.index r [c] := by omega
        have h4 : (Lib.index r [c] + 1).toNat = (Lib.index r [c]).toNat + 1 := by omega
        have h5 : (Lib.index r [c] == -1) = false := by simpa using h1
        simp only [h5, Bool.false_eq_true, if_false, if_pos h3, if_pos (show 0 ≤ Lib.index r [c] + 1 by omega), h4, List.length_cons, List.length_nil]
        refine Prod.ext ?_ (Prod.ext ?_ rfl)
        · simp
        · show List.drop ((Lib.index r [c]).toNat + 1 + 1) (x :: r) = _
          rw [List.drop_succ_cons]
theorem cutL_len (c : UInt8) : ∀ l : List UInt8, (cutL c l).1.length ≤ l.length ∧ (cutL c l).2.1.length ≤ l.length
  | [] => ⟨Nat.le_refl _, Nat.le_refl _⟩
  | x :: r => by
    have ih := cutL_len c r
    unfold cutL
    split
    · simp
    · simp only [List.length_cons]; omega
theorem acut_any (c : UInt8) (l : List UInt8) (w : World) (he : Env w) (hs : l.length ≤ 1000000000) : Calls Tryz.prog 210 #[.string (str l), .string ⟨#[c]⟩] w fun e w' =>
    e = .returned (.tuple #[.string (str (cutL c l).1), .string (str (cutL c l).2.1), .bool (cutL c l).2.2]) ∧ Below w.heap.size w w' := by
  obtain ⟨⟨m, hm⟩, _⟩ := he
  refine (Tryz.strings_Cut (str l) ⟨#[c]⟩ m w (by rw [str_size]; omega) hm).mono ?_
  rintro e w' ⟨rfl, q, rfl⟩
  have e1 : Lib.cut (str l).data.toList (⟨#[c]⟩ : ByteArray).data.toList = cutL c l := by
    rw [← cutL_eq]
    simp [str]
  rw [e1]
  exact ⟨rfl, drewN_below w q⟩
theorem num_no (l : List UInt8) (lo hi : Int) (h : numIn l lo hi = none) (w : World) : Calls Tryz.prog 169 #[.string (str l), .int .i64 lo, .int .i64 hi] w fun e w' => e = .returned (.tuple #[.int .i64 0, .bool false]) ∧ w = w' :=
  number_none (by rw [bytes_str]; exact h) w
theorem num_yes (l : List UInt8) (lo hi v : Int) (h : numIn l lo hi = some v) (w : World) : Calls Tryz.prog 169 #[.string (str l), .int .i64 lo, .int .i64 hi] w fun e w' => e = .returned (.tuple #[.int .i64 v, .bool true]) ∧ w = w' :=
  number_some (by rw [bytes_str]; exact h) w
/-- What a parser of two numbers answers. -/
def PoPost (o : Option (Int × Int)) (w : World) (e : Ending) (w' : World) : Prop := e = .returned (.tuple #[.agg #[.int .i64 (o.getD (0, 0)).1, .int .i64 (o.getD (0, 0)).2], .bool o.isSome]) ∧ Below w.heap.size w w'
def WiPost (o : Option (Nat × Nat)) (w : World) (e : Ending) (w' : World) : Prop := e = .returned (.tuple #[.agg #[.int .u32 ((o.getD (0, 0)).1 : Int), .int .u32 ((o.getD (0, 0)).2 : Int)], .bool o.isSome]) ∧ Below w.heap.size w w'
set_option maxHeartbeats 1000000 in
theorem parsePorts_any (l : List UInt8) (w : World) (he : Env w) (hs : l.length ≤ 1000000000) : Calls Tryz.prog 202 #[.string (str l)] w (PoPost (portA l) w) := by
  have HC := Lib.hid (fun w he => acut_any 45 l w he hs)
  have HE := Lib.hid he
  clear he
  unfold portA
  generalize cutL 45 l = z at HC ⊢
  obtain ⟨fr, bk, fd⟩ := z
  dsimp only at HC ⊢
  cases h1 : numIn fr 0 65535 with
  | none =>
    have HN := Lib.hid (num_no fr 0 65535 h1)
    clear h1
    go_enter Tryz.func202, Tryz.ntmps202
    go_wp2_with fail
    refine (HC.out _ (HE.out.below ((Below.refl _ w).alloc (Nat.le_refl _) _))).mono ?_
    rintro e w1 ⟨rfl, hb1⟩
    obtain ⟨hb, hz, c0, c1, f0⟩ := res_box hb1
    clear hb1
    go_wp2_with fail
    refine (HN.out _).mono ?_
    rintro e w2 ⟨rfl, rfl⟩
    go_wp2_with fail
    refine bodyPost_ret (v := .tuple #[.agg #[.int .i64 0, .int .i64 0], .bool false]) (by simp [results, Tryz.results202, go_sem, *]) rfl ⟨rfl, ?_⟩
    exact (hb.setCell (Nat.le_refl _) _).setCell (Nat.le_refl _) _
  | some lo =>
    have HN := Lib.hid (num_yes fr 0 65535 lo h1)
    clear h1
    cases fd with
    | false =>
      go_enter Tryz.func202, Tryz.ntmps202
      go_wp2_with fail
      refine (HC.out _ (HE.out.below ((Below.refl _ w).alloc (Nat.le_refl _) _))).mono ?_
      rintro e w1 ⟨rfl, hb1⟩
      obtain ⟨hb, hz, c0, c1, f0⟩ := res_box hb1
      clear hb1
      go_wp2_with fail
      refine (HN.out _).mono ?_
      rintro e w2 ⟨rfl, rfl⟩
      go_wp2_with fail
      refine bodyPost_ret (v := .tuple #[.agg #[.int .i64 lo, .int .i64 lo], .bool true]) (by simp [results, Tryz.results202, go_sem, *]) rfl ⟨rfl, ?_⟩
      exact (hb.setCell (Nat.le_refl _) _).setCell (Nat.le_refl _) _
    | true =>
      cases h2 : numIn bk 0 65535 with
      | none =>
        have HM := Lib.hid (num_no bk 0 65535 h2)
        clear h2
        go_enter Tryz.func202, Tryz.ntmps202
        go_wp2_with fail
        refine (HC.out _ (HE.out.below ((Below.refl _ w).alloc (Nat.le_refl _) _))).mono ?_
        rintro e w1 ⟨rfl, hb1⟩
        obtain ⟨hb, hz, c0, c1, f0⟩ := res_box hb1
        clear hb1
        go_wp2_with fail
        refine (HN.out _).mono ?_
        rintro e w2 ⟨rfl, rfl⟩
        go_wp2_with fail
        refine (HM.out _).mono ?_
        rintro e w2 ⟨rfl, rfl⟩
        go_wp2_with fail
        refine bodyPost_ret (v := .tuple #[.agg #[.int .i64 0, .int .i64 0], .bool false]) (by simp [results, Tryz.results202, go_sem, *]) rfl ⟨rfl, ?_⟩
        exact (hb.setCell (Nat.le_refl _) _).setCell (Nat.le_refl _) _
      | some hi =>
        have HM := Lib.hid (num_yes bk 0 65535 hi h2)
        clear h2
        go_enter Tryz.func202, Tryz.ntmps202
        go_wp2_with fail
        refine (HC.out _ (HE.out.below ((Below.refl _ w).alloc (Nat.le_refl _) _))).mono ?_
        rintro e w1 ⟨rfl, hb1⟩
        obtain ⟨hb, hz, c0, c1, f0⟩ := res_box hb1
        clear hb1
        go_wp2_with fail
        refine (HN.out _).mono ?_
        rintro e w2 ⟨rfl, rfl⟩
        go_wp2_with fail
        refine (HM.out _).mono ?_
        rintro e w2 ⟨rfl, rfl⟩
        go_wp2_with fail
        refine bodyPost_ret (v := .tuple #[.agg #[.int .i64 lo, .int .i64 hi], .bool true]) (by simp [results, Tryz.results202, go_sem, *]) rfl ⟨rfl, ?_⟩
        exact (hb.setCell (Nat.le_refl _) _).setCell (Nat.le_refl _) _
set_option maxHeartbeats 1000000 in
theorem wports_any {kb : Bool} (b B : Nat) (p : Ps) (w : World) (h : WSt (147, kb) b B p w) (he : EnvA B w) (hs : p.short) : Calls Tryz.prog 178 #[.pointer (some ⟨b, 0, none⟩)] w (WPost (147, kb) b B (.agg #[.int .i64 (poV p).1, .int .i64 (poV p).2]) (poS p) w) := by
  have hB := h.1
  have hlt := h.lt
  have hss := wV_short hs
  have H := Lib.hid h
  have HE := Lib.hid he
  have HN := Lib.hid (fun w h => wnext_any (kb := kb) b B p w h)
  have HM := Lib.hid (fun p ok w h => wmust_any (kb := kb) b B p ok w h)
  have HK : Hid (∀ w, Env w → Calls Tryz.prog 202 #[.string (str (wV p))] w fun e w' => e = .returned (.tuple #[.agg #[.int .i64 (poV p).1, .int .i64 (poV p).2], .bool (portA (wV p)).isSome]) ∧ Below w.heap.size w w') := Lib.hid (fun w he => by have := parsePorts_any (wV p) w he (by rw [str_size] at hss; exact hss); exact this)
  unfold strV at HN
  have E : Hid (poS p = mustS (portA (wV p)).isSome (wS p)) := Lib.hid rfl
  clear h he hs hss
  generalize ((poV p).1 : Int) = va at HK ⊢
  generalize ((poV p).2 : Int) = vb at HK ⊢
  generalize (portA (wV p)).isSome = vo at HK E
  go_enter Tryz.func178, Tryz.ntmps178
  go_wp2_with fail
  refine (HN.out _ (H.out.keep ((Below.refl _ w).alloc (Nat.le_refl _) _))).mono ?_
  rintro e w1 ⟨rfl, h1, k1⟩
  have H1 := Lib.hid h1
  obtain ⟨hz1, c0, c1, f0⟩ := far_box k1 hlt
  have K1 := Lib.hid ((World.grownBy_alloc w _ _).trans k1)
  have HE1 := Lib.hid ((HE.out.keep ((Below.refl B w).alloc (by omega) _)).on k1 hB (by simp; omega))
  clear h1 k1
  go_wp2_with fail
  refine (HK.out w1 HE1.out.1).mono ?_
  rintro e w2 ⟨rfl, hb2⟩
  obtain ⟨hz2, d0, d1, g0⟩ := far_below hb2 hz1 c0 c1 f0
  have H2 := Lib.hid (H1.out.keep hb2)
  have K2 := Lib.hid (grown_tail K1.out (hb2.mono (by omega)))
  clear hb2 c0 c1 f0
  have c0' := cell_alloc' hz2 d0
  have c1' := cell_alloc' hz2 d1
  have f0' := frozen_alloc' hz2 g0
  clear d0 d1 g0
  go_wp2_with fail
  refine (HM.out _ _ _ (H2.out.keep ((Below.refl _ w2).alloc (Nat.le_refl _) _))).mono ?_
  rintro e w3 ⟨rfl, h3, k3⟩
  obtain ⟨hz3, e0, e1, g3⟩ := far_box k3 (by omega)
  obtain ⟨hz4, r0, r1, g4⟩ := far_on k3 (g := w.heap.size) (by simp; omega) (by omega) (c0' _) (c1' _) (f0' _)
  have H3 := Lib.hid h3
  have K3 := Lib.hid ((K2.out.trans (World.grownBy_alloc w2 _ _)).trans k3)
  clear h3 k3 c0' c1' f0'
  go_wp2_with fail
  refine bodyPost_ret (v := .agg #[.int .i64 va, .int .i64 vb]) (by simp [results, Tryz.results178, go_sem, *]) rfl ⟨rfl, ?_⟩
  rw [E.out]
  exact wbox_end H3.out K3.out hlt _ _
theorem whost_any {kb : Bool} (b B : Nat) (p : Ps) (w : World) (h : WSt (147, kb) b B p w) (he : EnvA B w) (hs : p.short) : Calls Tryz.prog 171 #[.pointer (some ⟨b, 0, none⟩)] w (WPost (147, kb) b B (.tuple #[.int .u32 ((hoV p).1 : Int), .int .i64 (hoV p).2]) (hoS p) w) := by
  have hB := h.1
  have hlt := h.lt
  have hss := wV_short hs
  have H := Lib.hid h
  have HE := Lib.hid he
  have HN := Lib.hid (fun w h => wnext_any (kb := kb) b B p w h)
  have HM := Lib.hid (fun p ok w h => wmust_any (kb := kb) b B p ok w h)
  have HK : Hid (∀ w, Env w → Calls Tryz.prog 200 #[.string (str (wV p))] w (HostPost (hostA (wV p)) w)) := Lib.hid (fun w he => by have := parseHost_any (str (wV p)) w he hss; rw [bytes_str] at this; exact this)
  unfold strV at HN
  unfold hoS hoV
  unfold HostPost at HK
  clear h he hs hss
  generalize hostA (wV p) = o at HK ⊢
  have E : Hid (∀ c : Bool, (o.isSome && !((o.getD (0, 0)).1 == 0) && !((o.getD (0, 0)).2 == 0)) = c → WPost (147, kb) b B (.tuple #[.int .u32 ((o.getD (0, 0)).1 : Int), .int .i64 (o.getD (0, 0)).2]) (mustS (o.isSome && !((o.getD (0, 0)).1 == 0) && !((o.getD (0, 0)).2 == 0)) (wS p)) w = WPost (147, kb) b B (.tuple #[.int .u32 ((o.getD (0, 0)).1 : Int), .int .i64 (o.getD (0, 0)).2]) (mustS c (wS p)) w) := Lib.hid (fun c e => by rw [e])
  cases o with
  | none =>
    rw [E.out false rfl]
    simp only [Option.getD_none, Option.isSome_none] at HK ⊢
    go_enter Tryz.func171, Tryz.ntmps171
    go_wp2_with fail
    refine (HN.out _ H.out).mono ?_
    rintro e w1 ⟨rfl, h1, k1⟩
    have HE1 := Lib.hid (HE.out.on k1 hB (by omega))
    go_wp2_with fail
    refine (HK.out _ HE1.out.1).mono ?_
    rintro e w2 ⟨rfl, k2⟩
    go_wp2_with fail
    refine (HM.out _ _ _ (h1.keep k2)).mono ?_
    rintro e w3 ⟨rfl, h3, k3⟩
    go_wp2_with fail
    go_ret2
    exact ⟨rfl, h3, (grown_tail k1 (k2.mono k1.size)).trans k3⟩
  | some x =>
    obtain ⟨a, n⟩ := x
    simp only [Option.getD_some, Option.isSome_some, Bool.true_and] at HK E ⊢
    cases ha : (a == 0) with
    | true =>
      have q1 : (((a : Nat) : Int) != 0) = false := by have := eq_of_beq ha; subst this; rfl
      rw [ha] at E
      have e1 := E.out false rfl
      rw [e1]
      clear ha e1 E
      go_enter Tryz.func171, Tryz.ntmps171
      go_wp2_with fail
      refine (HN.out _ H.out).mono ?_
      rintro e w1 ⟨rfl, h1, k1⟩
      have HE1 := Lib.hid (HE.out.on k1 hB (by omega))
      go_wp2_with fail
      refine (HK.out _ HE1.out.1).mono ?_
      rintro e w2 ⟨rfl, k2⟩
      go_wp2_with fail
      refine (HM.out _ _ _ (h1.keep k2)).mono ?_
      rintro e w3 ⟨rfl, h3, k3⟩
      go_wp2_with fail
      go_ret2
      exact ⟨rfl, h3, (grown_tail k1 (k2.mono k1.size)).trans k3⟩
    | false =>
      have q1 : (((a : Nat) : Int) != 0) = true := by simp only [bne_iff_ne]; intro e; rw [show a = 0 from by omega] at ha; cases ha
      rw [ha] at E
      cases hn : (n == 0) with
      | true =>
        have q2 : (n != 0) = false := by have := eq_of_beq hn; subst this; rfl
        rw [hn] at E
        have e1 := E.out false rfl
        rw [e1]
        clear ha hn e1 E
        go_enter Tryz.func171, Tryz.ntmps171
        go_wp2_with fail
        refine (HN.out _ H.out).mono ?_
        rintro e w1 ⟨rfl, h1, k1⟩
        have HE1 := Lib.hid (HE.out.on k1 hB (by omega))
        go_wp2_with fail
        refine (HK.out _ HE1.out.1).mono ?_
        rintro e w2 ⟨rfl, k2⟩
        go_wp2_with fail
        refine (HM.out _ _ _ (h1.keep k2)).mono ?_
        rintro e w3 ⟨rfl, h3, k3⟩
        go_wp2_with fail
        go_ret2
        exact ⟨rfl, h3, (grown_tail k1 (k2.mono k1.size)).trans k3⟩
      | false =>
        have q2 : (n != 0) = true := by simp only [bne_iff_ne]; intro e; subst e; cases hn
        rw [hn] at E
        have e1 := E.out true rfl
        rw [e1]
        clear ha hn e1 E
        go_enter Tryz.func171, Tryz.ntmps171
        go_wp2_with fail
        refine (HN.out _ H.out).mono ?_
        rintro e w1 ⟨rfl, h1, k1⟩
        have HE1 := Lib.hid (HE.out.on k1 hB (by omega))
        go_wp2_with fail
        refine (HK.out _ HE1.out.1).mono ?_
        rintro e w2 ⟨rfl, k2⟩
        go_wp2_with fail
        refine (HM.out _ _ _ (h1.keep k2)).mono ?_
        rintro e w3 ⟨rfl, h3, k3⟩
        go_wp2_with fail
        go_ret2
        exact ⟨rfl, h3, (grown_tail k1 (k2.mono k1.size)).trans k3⟩
theorem aparse_no (l : List UInt8) (h : parseA l = none) (hs : l.length ≤ 1000000000) (w : World) (he : Env w) : Calls Tryz.prog 179 #[.string (str l)] w fun e w' => e = .returned (.tuple #[.int .u32 0, .bool false]) ∧ Below w.heap.size w w' :=
  parse_none (by rw [bytes_str]; exact h) w he (by rw [str_size]; exact hs)
theorem aparse_yes (l : List UInt8) (a : Nat) (h : parseA l = some a) (hs : l.length ≤ 1000000000) (w : World) (he : Env w) : Calls Tryz.prog 179 #[.string (str l)] w fun e w' => e = .returned (.tuple #[.int .u32 (a : Int), .bool true]) ∧ Below w.heap.size w w' :=
  parse_some (by rw [bytes_str]; exact h) w he (by rw [str_size]; exact hs)
theorem apfx_no (l : List UInt8) (h : pfxA l = none) (hs : l.length ≤ 1000000000) (w : World) (he : Env w) : Calls Tryz.prog 172 #[.string (str l)] w fun e w' => e = .returned (.tuple #[.agg #[.int .u32 0, .int .i64 0], .bool false]) ∧ Below w.heap.size w w' := by
  have := parsePrefix_any (str l) w he (by rw [str_size]; exact hs)
  rw [bytes_str, h] at this
  exact this
theorem apfx_yes (l : List UInt8) (a : Nat) (n : Int) (h : pfxA l = some (a, n)) (hs : l.length ≤ 1000000000) (w : World) (he : Env w) : Calls Tryz.prog 172 #[.string (str l)] w fun e w' => e = .returned (.tuple #[.agg #[.int .u32 (a : Int), .int .i64 n], .bool true]) ∧ Below w.heap.size w w' := by
  have := parsePrefix_any (str l) w he (by rw [str_size]; exact hs)
  rw [bytes_str, h] at this
  exact this
theorem not_mask (n : Int) : bits .xor .u32 IntKind.u32.max (maskN n : Int) = ((4294967295 - maskN n : Nat) : Int) := by
  rw [i_not]
  have h1 := sz_le n
  have h2 := sz_pos n
  unfold maskN
  omega
set_option maxHeartbeats 2000000 in
theorem parseWildcard_any (l : List UInt8) (w : World) (he : Env w) (hs : l.length ≤ 1000000000) : Calls Tryz.prog 201 #[.string (str l)] w (WiPost (wildA l) w) := by
  have HE := Lib.hid he
  have q0 : ((str l).toList == [97, 110, 121]) = (l == [97, 110, 121]) := by rw [toList_str]
  clear he
  cases h0 : (l == [97, 110, 121]) with
  | true =>
    have HF : Hid (wildA l = some (0, 4294967295)) := Lib.hid (by unfold wildA; rw [h0]; rfl)
    rw [h0] at q0
    clear h0
    have HM : Hid (∀ w, Calls Tryz.prog 131 #[.int .i64 32] w fun e w' => e = .returned (.int .u32 4294967295) ∧ w = w') := Lib.hid (fun w => mask_any 32 w)
    go_enter Tryz.func201, Tryz.ntmps201
    go_wp2_with fail
    refine (HM.out _).mono ?_
    rintro e w1 ⟨rfl, rfl⟩
    go_wp2_with fail
    refine bodyPost_ret (v := .tuple #[.agg #[.int .u32 0, .int .u32 4294967295], .bool true]) (by simp [results, Tryz.results201, go_sem, *]) rfl ⟨by rw [HF.out]; rfl, ?_⟩
    first | exact (((Below.refl _ w).alloc (Nat.le_refl _) _).setCell (Nat.le_refl _) _).setCell (Nat.le_refl _) _ | exact ((Below.refl _ w).alloc (Nat.le_refl _) _).setCell (Nat.le_refl _) _ | exact (Below.refl _ w).alloc (Nat.le_refl _) _
  | false =>
    rw [h0] at q0
    have HP := Lib.hid (fun a h w he => aparse_yes l a h hs w he)
    have HX := Lib.hid (fun a n h w he => apfx_yes l a n h hs w he)
    have HQ := Lib.hid (fun h w he => aparse_no l h hs w he)
    have HY := Lib.hid (fun h w he => apfx_no l h hs w he)
    cases h1 : parseA l with
    | some a =>
      have HF : Hid (wildA l = some (a, 0)) := Lib.hid (by unfold wildA; rw [h0, h1]; rfl)
      have H1 := Lib.hid h1
      clear h0 h1
      go_enter Tryz.func201, Tryz.ntmps201
      go_wp2_with fail
      refine (HP.out a H1.out _ (HE.out.below ((Below.refl _ w).alloc (Nat.le_refl _) _))).mono ?_
      rintro e w1 ⟨rfl, hb1⟩
      obtain ⟨hb, hz, c0, c1, f0⟩ := res_box hb1
      have HB := Lib.hid hb
      clear hb1 hb
      go_wp2_with fail
      refine bodyPost_ret (v := .tuple #[.agg #[.int .u32 (a : Int), .int .u32 0], .bool true]) (by simp [results, Tryz.results201, go_sem, *]) rfl ⟨by rw [HF.out]; rfl, ?_⟩
      exact (HB.out.setCell (Nat.le_refl _) _).setCell (Nat.le_refl _) _
    | none =>
      have H1 := Lib.hid h1
      cases h2 : pfxA l with
      | some x =>
        obtain ⟨a, n⟩ := x
        have HF : Hid (wildA l = some (a, 4294967295 - maskN n)) := Lib.hid (by unfold wildA; rw [h0, h1, h2]; rfl)
        have H2 := Lib.hid h2
        have HM := Lib.hid (fun w => mask_any n w)
        have E := not_mask n
        clear h0 h1 h2
        go_enter Tryz.func201, Tryz.ntmps201
        go_wp2_with fail
        refine (HQ.out H1.out _ (HE.out.below ((Below.refl _ w).alloc (Nat.le_refl _) _))).mono ?_
        rintro e w1 ⟨rfl, hb1⟩
        obtain ⟨hb, hz, c0, c1, f0⟩ := res_box hb1
        have HB := Lib.hid hb
        clear hb1 hb
        go_wp2_with fail
        refine (HX.out a n H2.out _ (HE.out.below HB.out)).mono ?_
        rintro e w2 ⟨rfl, hb2⟩
        obtain ⟨hz', d0, d1, g0⟩ := far_below hb2 (g := w.heap.size) hz c0 c1 f0
        have HB := Lib.hid (HB.out.trans (hb2.mono HB.out.size))
        clear c0 c1 f0
        clear hb2 hz
        have hz := hz'
        have c0 := d0
        have c1 := d1
        have f0 := g0
        clear hz' d0 d1 g0
        have c0' := cell_alloc' hz c0
        have c1' := cell_alloc' hz c1
        have f0' := frozen_alloc' hz f0
        clear c0 c1 f0
        go_wp2_with fail
        go_region_with (go_at_call 131; refine (HM.out _).mono ?_; rintro e w' ⟨rfl, rfl⟩)
        all_goals (go_wp2_with fail; refine bodyPost_ret (v := .tuple #[.agg #[.int .u32 (a : Int), .int .u32 ((4294967295 - maskN n : Nat) : Int)], .bool true]) (by simp [results, Tryz.results201, go_sem, *]) rfl ⟨by rw [HF.out]; rfl, (((HB.out.alloc HB.out.size _).setCell (Nat.le_refl _) _).setCell (Nat.le_refl _) _).drew⟩)
      | none =>
        have H2 := Lib.hid h2
        have HC := Lib.hid (fun w he => acut_any 126 l w he hs)
        have hl := cutL_len 126 l
        have EW : Hid (wildA l = match parseA (cutL 126 l).1 with
          | none => none
          | some a => match parseA (cutL 126 l).2.1 with
            | none => none
            | some m => if a &&& m == 0 then some (a, m) else none) := Lib.hid (by unfold wildA; rw [h0, h1, h2]; rfl)
        clear h0 h1 h2
        generalize cutL 126 l = z at HC hl EW
        obtain ⟨fr, bk, fd⟩ := z
        dsimp only at HC hl EW
        have l1 : fr.length ≤ 1000000000 := by omega
        have l2 : bk.length ≤ 1000000000 := by omega
        cases h3 : parseA fr with
        | none =>
          have HF : Hid (wildA l = none) := Lib.hid (by rw [EW.out, h3])
          have H3 := Lib.hid (fun w he => aparse_no fr h3 l1 w he)
          clear h3
          go_enter Tryz.func201, Tryz.ntmps201
          go_wp2_with fail
          refine (HQ.out H1.out _ (HE.out.below ((Below.refl _ w).alloc (Nat.le_refl _) _))).mono ?_
          rintro e w1 ⟨rfl, hb1⟩
          obtain ⟨hb, hz, c0, c1, f0⟩ := res_box hb1
          have HB := Lib.hid hb
          clear hb1 hb
          go_wp2_with fail
          refine (HY.out H2.out _ (HE.out.below HB.out)).mono ?_
          rintro e w2 ⟨rfl, hb2⟩
          obtain ⟨hz', d0, d1, g0⟩ := far_below hb2 (g := w.heap.size) hz c0 c1 f0
          have HB := Lib.hid (HB.out.trans (hb2.mono HB.out.size))
          clear c0 c1 f0
          clear hb2 hz
          have hz := hz'
          have c0 := d0
          have c1 := d1
          have f0 := g0
          clear hz' d0 d1 g0
          have c0' := cell_alloc' hz c0
          have c1' := cell_alloc' hz c1
          have f0' := frozen_alloc' hz f0
          clear c0 c1 f0
          go_wp2_with fail
          refine (HC.out _ (HE.out.below (HB.out.alloc HB.out.size _))).mono ?_
          rintro e w3 ⟨rfl, hb3⟩
          obtain ⟨hz', d0, d1, g0⟩ := far_below hb3 (g := w.heap.size) (by simp; omega) (c0' _) (c1' _) (f0' _)
          have HB := Lib.hid ((HB.out.alloc HB.out.size _).trans (hb3.mono (by simp; omega)))
          clear c0' c1' f0'
          clear hb3 hz
          have hz := hz'
          have c0 := d0
          have c1 := d1
          have f0 := g0
          clear hz' d0 d1 g0
          go_wp2_with fail
          refine (H3.out _ (HE.out.below HB.out)).mono ?_
          rintro e w4 ⟨rfl, hb4⟩
          obtain ⟨hz', d0, d1, g0⟩ := far_below hb4 (g := w.heap.size) hz c0 c1 f0
          have HB := Lib.hid (HB.out.trans (hb4.mono HB.out.size))
          clear c0 c1 f0
          clear hb4 hz
          have hz := hz'
          have c0 := d0
          have c1 := d1
          have f0 := g0
          clear hz' d0 d1 g0
          go_wp2_with fail
          refine bodyPost_ret (v := .tuple #[.agg #[.int .u32 0, .int .u32 0], .bool false]) (by simp [results, Tryz.results201, go_sem, *]) rfl ⟨by rw [HF.out]; rfl, ?_⟩
          exact (HB.out.setCell (Nat.le_refl _) _).setCell (Nat.le_refl _) _
        | some a =>
          have H3 := Lib.hid (fun w he => aparse_yes fr a h3 l1 w he)
          cases h4 : parseA bk with
          | none =>
            have HF : Hid (wildA l = none) := Lib.hid (by rw [EW.out, h3]; simp only [h4])
            have H4 := Lib.hid (fun w he => aparse_no bk h4 l2 w he)
            clear h3 h4
            go_enter Tryz.func201, Tryz.ntmps201
            go_wp2_with fail
            refine (HQ.out H1.out _ (HE.out.below ((Below.refl _ w).alloc (Nat.le_refl _) _))).mono ?_
            rintro e w1 ⟨rfl, hb1⟩
            obtain ⟨hb, hz, c0, c1, f0⟩ := res_box hb1
            have HB := Lib.hid hb
            clear hb1 hb
            go_wp2_with fail
            refine (HY.out H2.out _ (HE.out.below HB.out)).mono ?_
            rintro e w2 ⟨rfl, hb2⟩
            obtain ⟨hz', d0, d1, g0⟩ := far_below hb2 (g := w.heap.size) hz c0 c1 f0
            have HB := Lib.hid (HB.out.trans (hb2.mono HB.out.size))
            clear c0 c1 f0
            clear hb2 hz
            have hz := hz'
            have c0 := d0
            have c1 := d1
            have f0 := g0
            clear hz' d0 d1 g0
            have c0' := cell_alloc' hz c0
            have c1' := cell_alloc' hz c1
            have f0' := frozen_alloc' hz f0
            clear c0 c1 f0
            go_wp2_with fail
            refine (HC.out _ (HE.out.below (HB.out.alloc HB.out.size _))).mono ?_
            rintro e w3 ⟨rfl, hb3⟩
            obtain ⟨hz', d0, d1, g0⟩ := far_below hb3 (g := w.heap.size) (by simp; omega) (c0' _) (c1' _) (f0' _)
            have HB := Lib.hid ((HB.out.alloc HB.out.size _).trans (hb3.mono (by simp; omega)))
            clear c0' c1' f0'
            clear hb3 hz
            have hz := hz'
            have c0 := d0
            have c1 := d1
            have f0 := g0
            clear hz' d0 d1 g0
            go_wp2_with fail
            refine (H3.out _ (HE.out.below HB.out)).mono ?_
            rintro e w4 ⟨rfl, hb4⟩
            obtain ⟨hz', d0, d1, g0⟩ := far_below hb4 (g := w.heap.size) hz c0 c1 f0
            have HB := Lib.hid (HB.out.trans (hb4.mono HB.out.size))
            clear c0 c1 f0
            clear hb4 hz
            have hz := hz'
            have c0 := d0
            have c1 := d1
            have f0 := g0
            clear hz' d0 d1 g0
            go_wp2_with fail
            refine (H4.out _ (HE.out.below HB.out)).mono ?_
            rintro e w5 ⟨rfl, hb5⟩
            obtain ⟨hz', d0, d1, g0⟩ := far_below hb5 (g := w.heap.size) hz c0 c1 f0
            have HB := Lib.hid (HB.out.trans (hb5.mono HB.out.size))
            clear c0 c1 f0
            clear hb5 hz
            have hz := hz'
            have c0 := d0
            have c1 := d1
            have f0 := g0
            clear hz' d0 d1 g0
            go_wp2_with fail
            refine bodyPost_ret (v := .tuple #[.agg #[.int .u32 0, .int .u32 0], .bool false]) (by simp [results, Tryz.results201, go_sem, *]) rfl ⟨by rw [HF.out]; rfl, ?_⟩
            exact (HB.out.setCell (Nat.le_refl _) _).setCell (Nat.le_refl _) _
          | some m =>
            have H4 := Lib.hid (fun w he => aparse_yes bk m h4 l2 w he)
            have E := u32_and_nat a m (parseA_lt h3) (parseA_lt h4)
            cases h5 : (a &&& m == 0) with
            | true =>
              have q5 : (((a &&& m : Nat) : Int) != 0) = false := by have := eq_of_beq h5; rw [this]; rfl
              have HF : Hid (wildA l = some (a, m)) := Lib.hid (by rw [EW.out, h3]; simp only [h4, h5]; rfl)
              clear h3 h4 h5
              go_enter Tryz.func201, Tryz.ntmps201
              go_wp2_with fail
              refine (HQ.out H1.out _ (HE.out.below ((Below.refl _ w).alloc (Nat.le_refl _) _))).mono ?_
              rintro e w1 ⟨rfl, hb1⟩
              obtain ⟨hb, hz, c0, c1, f0⟩ := res_box hb1
              have HB := Lib.hid hb
              clear hb1 hb
              go_wp2_with fail
              refine (HY.out H2.out _ (HE.out.below HB.out)).mono ?_
              rintro e w2 ⟨rfl, hb2⟩
              obtain ⟨hz', d0, d1, g0⟩ := far_below hb2 (g := w.heap.size) hz c0 c1 f0
              have HB := Lib.hid (HB.out.trans (hb2.mono HB.out.size))
              clear c0 c1 f0
              clear hb2 hz
              have hz := hz'
              have c0 := d0
              have c1 := d1
              have f0 := g0
              clear hz' d0 d1 g0
              have c0' := cell_alloc' hz c0
              have c1' := cell_alloc' hz c1
              have f0' := frozen_alloc' hz f0
              clear c0 c1 f0
              go_wp2_with fail
              refine (HC.out _ (HE.out.below (HB.out.alloc HB.out.size _))).mono ?_
              rintro e w3 ⟨rfl, hb3⟩
              obtain ⟨hz', d0, d1, g0⟩ := far_below hb3 (g := w.heap.size) (by simp; omega) (c0' _) (c1' _) (f0' _)
              have HB := Lib.hid ((HB.out.alloc HB.out.size _).trans (hb3.mono (by simp; omega)))
              clear c0' c1' f0'
              clear hb3 hz
              have hz := hz'
              have c0 := d0
              have c1 := d1
              have f0 := g0
              clear hz' d0 d1 g0
              go_wp2_with fail
              refine (H3.out _ (HE.out.below HB.out)).mono ?_
              rintro e w4 ⟨rfl, hb4⟩
              obtain ⟨hz', d0, d1, g0⟩ := far_below hb4 (g := w.heap.size) hz c0 c1 f0
              have HB := Lib.hid (HB.out.trans (hb4.mono HB.out.size))
              clear c0 c1 f0
              clear hb4 hz
              have hz := hz'
              have c0 := d0
              have c1 := d1
              have f0 := g0
              clear hz' d0 d1 g0
              go_wp2_with fail
              refine (H4.out _ (HE.out.below HB.out)).mono ?_
              rintro e w5 ⟨rfl, hb5⟩
              obtain ⟨hz', d0, d1, g0⟩ := far_below hb5 (g := w.heap.size) hz c0 c1 f0
              have HB := Lib.hid (HB.out.trans (hb5.mono HB.out.size))
              clear c0 c1 f0
              clear hb5 hz
              have hz := hz'
              have c0 := d0
              have c1 := d1
              have f0 := g0
              clear hz' d0 d1 g0
              go_wp2_with fail
              refine bodyPost_ret (v := .tuple #[.agg #[.int .u32 (a : Int), .int .u32 (m : Int)], .bool true]) (by simp [results, Tryz.results201, go_sem, *]) rfl ⟨by rw [HF.out]; rfl, ?_⟩
              exact (HB.out.setCell (Nat.le_refl _) _).setCell (Nat.le_refl _) _
            | false =>
              have q5 : (((a &&& m : Nat) : Int) != 0) = true := by simp only [bne_iff_ne]; intro e; rw [show a &&& m = 0 from by omega] at h5; cases h5
              have HF : Hid (wildA l = none) := Lib.hid (by rw [EW.out, h3]; simp only [h4, h5]; rfl)
              clear h3 h4 h5
              go_enter Tryz.func201, Tryz.ntmps201
              go_wp2_with fail
              refine (HQ.out H1.out _ (HE.out.below ((Below.refl _ w).alloc (Nat.le_refl _) _))).mono ?_
              rintro e w1 ⟨rfl, hb1⟩
              obtain ⟨hb, hz, c0, c1, f0⟩ := res_box hb1
              have HB := Lib.hid hb
              clear hb1 hb
              go_wp2_with fail
              refine (HY.out H2.out _ (HE.out.below HB.out)).mono ?_
              rintro e w2 ⟨rfl, hb2⟩
              obtain ⟨hz', d0, d1, g0⟩ := far_below hb2 (g := w.heap.size) hz c0 c1 f0
              have HB := Lib.hid (HB.out.trans (hb2.mono HB.out.size))
              clear c0 c1 f0
              clear hb2 hz
              have hz := hz'
              have c0 := d0
              have c1 := d1
              have f0 := g0
              clear hz' d0 d1 g0
              have c0' := cell_alloc' hz c0
              have c1' := cell_alloc' hz c1
              have f0' := frozen_alloc' hz f0
              clear c0 c1 f0
              go_wp2_with fail
              refine (HC.out _ (HE.out.below (HB.out.alloc HB.out.size _))).mono ?_
              rintro e w3 ⟨rfl, hb3⟩
              obtain ⟨hz', d0, d1, g0⟩ := far_below hb3 (g := w.heap.size) (by simp; omega) (c0' _) (c1' _) (f0' _)
              have HB := Lib.hid ((HB.out.alloc HB.out.size _).trans (hb3.mono (by simp; omega)))
              clear c0' c1' f0'
              clear hb3 hz
              have hz := hz'
              have c0 := d0
              have c1 := d1
              have f0 := g0
              clear hz' d0 d1 g0
              go_wp2_with fail
              refine (H3.out _ (HE.out.below HB.out)).mono ?_
              rintro e w4 ⟨rfl, hb4⟩
              obtain ⟨hz', d0, d1, g0⟩ := far_below hb4 (g := w.heap.size) hz c0 c1 f0
              have HB := Lib.hid (HB.out.trans (hb4.mono HB.out.size))
              clear c0 c1 f0
              clear hb4 hz
              have hz := hz'
              have c0 := d0
              have c1 := d1
              have f0 := g0
              clear hz' d0 d1 g0
              go_wp2_with fail
              refine (H4.out _ (HE.out.below HB.out)).mono ?_
              rintro e w5 ⟨rfl, hb5⟩
              obtain ⟨hz', d0, d1, g0⟩ := far_below hb5 (g := w.heap.size) hz c0 c1 f0
              have HB := Lib.hid (HB.out.trans (hb5.mono HB.out.size))
              clear c0 c1 f0
              clear hb5 hz
              have hz := hz'
              have c0 := d0
              have c1 := d1
              have f0 := g0
              clear hz' d0 d1 g0
              go_wp2_with fail
              refine bodyPost_ret (v := .tuple #[.agg #[.int .u32 0, .int .u32 0], .bool false]) (by simp [results, Tryz.results201, go_sem, *]) rfl ⟨by rw [HF.out]; rfl, ?_⟩
              exact (HB.out.setCell (Nat.le_refl _) _).setCell (Nat.le_refl _) _
set_option maxHeartbeats 1000000 in
theorem wwildcard_any {kb : Bool} (b B : Nat) (p : Ps) (w : World) (h : WSt (147, kb) b B p w) (he : EnvA B w) (hs : p.short) : Calls Tryz.prog 177 #[.pointer (some ⟨b, 0, none⟩)] w (WPost (147, kb) b B (.agg #[.int .u32 ((wiV p).1 : Int), .int .u32 ((wiV p).2 : Int)]) (wiS p) w) := by
  have hB := h.1
  have hlt := h.lt
  have hss := wV_short hs
  have H := Lib.hid h
  have HE := Lib.hid he
  have HN := Lib.hid (fun w h => wnext_any (kb := kb) b B p w h)
  have HM := Lib.hid (fun p ok w h => wmust_any (kb := kb) b B p ok w h)
  have HK : Hid (∀ w, Env w → Calls Tryz.prog 201 #[.string (str (wV p))] w fun e w' => e = .returned (.tuple #[.agg #[.int .u32 ((wiV p).1 : Int), .int .u32 ((wiV p).2 : Int)], .bool (wildA (wV p)).isSome]) ∧ Below w.heap.size w w') := Lib.hid (fun w he => parseWildcard_any (wV p) w he (by rw [str_size] at hss; exact hss))
  unfold strV at HN
  have E : Hid (wiS p = mustS (wildA (wV p)).isSome (wS p)) := Lib.hid rfl
  clear h he hs hss
  generalize (((wiV p).1 : Int) : Int) = va at HK ⊢
  generalize (((wiV p).2 : Int) : Int) = vb at HK ⊢
  generalize (wildA (wV p)).isSome = vo at HK E
  go_enter Tryz.func177, Tryz.ntmps177
  go_wp2_with fail
  refine (HN.out _ (H.out.keep ((Below.refl _ w).alloc (Nat.le_refl _) _))).mono ?_
  rintro e w1 ⟨rfl, h1, k1⟩
  have H1 := Lib.hid h1
  obtain ⟨hz1, c0, c1, f0⟩ := far_box k1 hlt
  have K1 := Lib.hid ((World.grownBy_alloc w _ _).trans k1)
  have HE1 := Lib.hid ((HE.out.keep ((Below.refl B w).alloc (by omega) _)).on k1 hB (by simp; omega))
  clear h1 k1
  go_wp2_with fail
  refine (HK.out w1 HE1.out.1).mono ?_
  rintro e w2 ⟨rfl, hb2⟩
  obtain ⟨hz2, d0, d1, g0⟩ := far_below hb2 hz1 c0 c1 f0
  have H2 := Lib.hid (H1.out.keep hb2)
  have K2 := Lib.hid (grown_tail K1.out (hb2.mono (by omega)))
  clear hb2 c0 c1 f0
  have c0' := cell_alloc' hz2 d0
  have c1' := cell_alloc' hz2 d1
  have f0' := frozen_alloc' hz2 g0
  clear d0 d1 g0
  go_wp2_with fail
  refine (HM.out _ _ _ (H2.out.keep ((Below.refl _ w2).alloc (Nat.le_refl _) _))).mono ?_
  rintro e w3 ⟨rfl, h3, k3⟩
  obtain ⟨hz3, e0, e1, g3⟩ := far_box k3 (by omega)
  obtain ⟨hz4, r0, r1, g4⟩ := far_on k3 (g := w.heap.size) (by simp; omega) (by omega) (c0' _) (c1' _) (f0' _)
  have H3 := Lib.hid h3
  have K3 := Lib.hid ((K2.out.trans (World.grownBy_alloc w2 _ _)).trans k3)
  clear h3 k3 c0' c1' f0'
  go_wp2_with fail
  refine bodyPost_ret (v := .agg #[.int .u32 va, .int .u32 vb]) (by simp [results, Tryz.results177, go_sem, *]) rfl ⟨rfl, ?_⟩
  rw [E.out]
  exact wbox_end H3.out K3.out hlt _ _
end Go.Proofs.YtmddfkpkddemnaaGreatDoor
namespace Go.Proofs.YtmddfkpkddemnaaGreatDoor
open Go.RowKit
/-- A token: its line, its text. -/
abbrev Tk := Int × List UInt8
/-- A node: its line, its words, whether it is a block, the nodes in it. -/
inductive Nd where
  | mk (line : Int) (words : List (List UInt8)) (block : Bool) (kids : List Nd)
def special (t : List UInt8) : Bool := t == [59] || t == [123] || t == [125]
mutual
/-- The nodes of a block (inner) or of a text: they and what is behind them, or the line at fault. -/
def seqN (lines : Int) : Nat → Bool → List Tk → List Nd → Except Int (List Nd × List Tk)
  | 0, _, _, _ => .error lines
  | _ + 1, inner, [], ns => if inner then .error lines else .ok (ns, [])
  | n + 1, inner, t :: r, ns => if inner && t.2 == [125] then .ok (ns, r) else match nodeN lines n t.1 (t :: r) [] with
    | .error l => .error l
    | .ok (x, r') => seqN lines n inner r' (ns ++ [x])
/-- One node. -/
def nodeN (lines : Int) : Nat → Int → List Tk → List (List UInt8) → Except Int (Nd × List Tk)
  | 0, _, _, _ => .error lines
  | _ + 1, _, [], _ => .error lines
  | n + 1, at_, t :: r, ws => if !special t.2 then nodeN lines n at_ r (ws ++ [t.2])
    else if ws.isEmpty || t.2 == [125] then .error t.1
    else if t.2 == [59] then .ok (.mk at_ ws false [], r)
    else match seqN lines n true r [] with
      | .error l => .error l
      | .ok (ks, r') => .ok (.mk at_ ws true ks, r')
end
/-- What a node may stand in: a text, a block. -/
inductive Fm where
  | top | system | interfaces | iface | prefixRules | clauses | clause | rules | rule | translations | statics | static | linkState | distance | path | neighbor
  | redLS | redDV | redPV
deriving DecidableEq
def lastF {α : Type} (f : α → α) : List α → List α
  | [] => []
  | [x] => [f x]
  | x :: r => x :: lastF f r
def rtN : Rt := { name := [], asn := 0, ifsV := .slice none 0 0, listsV := .slice none 0 0, mapsV := .slice none 0 0, aclsV := .slice none 0 0, natV := .slice none 0 0, statV := .slice none 0 0, lsOn := false, lsAdmin := 0, rangesV := .slice none 0 0, lsRedV := .slice none 0 0, dvOn := false, dvAdmin := 0, dvIn := [], dvOut := [], dvRedV := .slice none 0 0, pvOn := false, ext := 0, int := 0, nbV := .slice none 0 0, netV := .slice none 0 0, agV := .slice none 0 0, cdV := .slice none 0 0, pvRedV := .slice none 0 0, ifs := [], lists := [], maps := [], acls := [], nat := [], stat := [], ranges := [], lsRed := [], dvRed := [], nb := [], net := [], ag := [], cd := [], pvRed := [] }
/-- What a form makes of a node: its key, the form of the nodes in it, the router, the words that are left. -/
abbrev FmR := List UInt8 × Option Fm × Rt × Ps
def nmK (a b : List UInt8) : List UInt8 := a ++ [32] ++ b
def srcN (n : Int) : List UInt8 := if n = 1 then [100, 105, 114, 101, 99, 116] else if n = 2 then [115, 116, 97, 116, 105, 99] else if n = 3 then [108, 105, 110, 107, 45, 115, 116, 97, 116, 101] else if n = 4 then [100, 105, 115, 116, 97, 110, 99, 101, 45, 118, 101, 99, 116, 111, 114] else [112, 97, 116, 104, 45, 118, 101, 99, 116, 111, 114]
def ifF (g : If → If) (r : Rt) : Rt := { r with ifs := lastF g r.ifs }
def plF (x : PRule) (r : Rt) : Rt := { r with lists := lastF (fun l => { l with rules := l.rules ++ [x] }) r.lists }
def clF (g : Cl → Cl) (r : Rt) : Rt := { r with maps := lastF (fun m => { m with clauses := lastF g m.clauses }) r.maps }
def ruF (g : Ru → Ru) (r : Rt) : Rt := { r with acls := lastF (fun l => { l with rules := lastF g l.rules }) r.acls }
def stF (g : Sr → Sr) (r : Rt) : Rt := { r with stat := lastF g r.stat }
def nbF' (g : Nb → Nb) (r : Rt) : Rt := { r with nb := lastF g r.nb }
/-- A redistribution's key, its form; where it is added. -/
def impS (blk : Bool) (fm : Fm) (put : Rd → Rt → Rt) (d : Rd) (r : Rt) (p : Ps) : FmR :=
  (nmK [105, 109, 112, 111, 114, 116] (srcN (srcV p)), if blk then some fm else none, put { d with frm := srcV p } r, srcS p)
def topF (r : Rt) (p : Ps) : FmR :=
  if wV p == [115, 121, 115, 116, 101, 109] then (wV p, some .system, r, wS p)
  else if wV p == [105, 110, 116, 101, 114, 102, 97, 99, 101, 115] then (wV p, some .interfaces, r, wS p)
  else if wV p == [112, 114, 101, 102, 105, 120, 45, 108, 105, 115, 116] then (nmK (wV p) (nmV (wS p)), some .prefixRules, { r with lists := r.lists ++ [⟨nmV (wS p), .slice none 0 0, []⟩] }, nmS (wS p))
  else if wV p == [112, 111, 108, 105, 99, 121] then (nmK (wV p) (nmV (wS p)), some .clauses, { r with maps := r.maps ++ [⟨nmV (wS p), .slice none 0 0, []⟩] }, nmS (wS p))
  else if wV p == [102, 105, 108, 116, 101, 114] then (nmK (wV p) (nmV (wS p)), some .rules, { r with acls := r.acls ++ [⟨nmV (wS p), .slice none 0 0, []⟩] }, nmS (wS p))
  else if wV p == [116, 114, 97, 110, 115, 108, 97, 116, 105, 111, 110] then (wV p, some .translations, r, wS p)
  else if wV p == [115, 116, 97, 116, 105, 99] then (wV p, some .statics, r, wS p)
  else if wV p == [108, 105, 110, 107, 45, 115, 116, 97, 116, 101] then (wV p, some .linkState, { r with lsOn := true, lsAdmin := 10 }, wS p)
  else if wV p == [100, 105, 115, 116, 97, 110, 99, 101, 45, 118, 101, 99, 116, 111, 114] then (wV p, some .distance, { r with dvOn := true, dvAdmin := 100 }, wS p)
  else if wV p == [112, 97, 116, 104, 45, 118, 101, 99, 116, 111, 114] then (wV p, some .path, { r with pvOn := true, ext := 170, int := 170 }, wS p)
  else ([], none, r, (wS p).fail)
def systemF (r : Rt) (p : Ps) : FmR :=
  if wV p == [104, 111, 115, 116, 45, 110, 97, 109, 101] then (wV p, none, { r with name := nmV (wS p) }, nmS (wS p))
  else if wV p == [97, 117, 116, 111, 110, 111, 109, 111, 117, 115, 45, 115, 121, 115, 116, 101, 109] then (wV p, none, { r with asn := noV 1 65535 (wS p) }, noS 1 65535 (wS p))
  else (wV p, none, r, (wS p).fail)
def interfacesF (r : Rt) (p : Ps) : FmR := (nmV p, some .iface, { r with ifs := r.ifs ++ [⟨nmV p, 0, 0, 0, false, false, 0, 0, false, [], [], 0⟩] }, nmS p)
/-- 'link-state area A [cost C]' of an interface. -/
def ifLS (p : Ps) : Int × Int × Ps := let p1 := mustS (isW [97, 114, 101, 97] p) (optS [97, 114, 101, 97] p); let p2 := noS 0 255 p1
  if isW [99, 111, 115, 116] p2 then (noV 0 255 p1, noV 1 65535 (optS [99, 111, 115, 116] p2), noS 1 65535 (optS [99, 111, 115, 116] p2)) else (noV 0 255 p1, 1, p2)
def ifaceF (r : Rt) (p : Ps) : FmR :=
  if wV p == [97, 100, 100, 114, 101, 115, 115] then (wV p, none, ifF (fun x => { x with addr := (hoV (wS p)).1, len := (hoV (wS p)).2 }) r, hoS (wS p))
  else if wV p == [118, 108, 97, 110] then (wV p, none, ifF (fun x => { x with vlan := noV 0 4094 (wS p) }) r, noS 0 4094 (wS p))
  else if wV p == [100, 105, 115, 97, 98, 108, 101] then (wV p, none, ifF (fun x => { x with down := true }) r, wS p)
  else if wV p == [108, 105, 110, 107, 45, 115, 116, 97, 116, 101] then (wV p, none, ifF (fun x => { x with ls := true, area := (ifLS (wS p)).1, cost := (ifLS (wS p)).2.1 }) r, (ifLS (wS p)).2.2)
  else if wV p == [100, 105, 115, 116, 97, 110, 99, 101, 45, 118, 101, 99, 116, 111, 114] then (wV p, none, ifF (fun x => { x with dv := true }) r, wS p)
  else if wV p == [105, 110, 112, 117, 116] then (wV p, none, ifF (fun x => { x with inn := nmV (wS p) }) r, nmS (wS p))
  else if wV p == [111, 117, 116, 112, 117, 116] then (wV p, none, ifF (fun x => { x with out := nmV (wS p) }) r, nmS (wS p))
  else if wV p == [115, 105, 100, 101] then (wV p, none, ifF (fun x => { x with side := if chB [105, 110, 115, 105, 100, 101] [111, 117, 116, 115, 105, 100, 101] (wS p) then 1 else 2 }) r, chS [105, 110, 115, 105, 100, 101] [111, 117, 116, 115, 105, 100, 101] (wS p))
  else (wV p, none, r, (wS p).fail)
/-- The bounds of a prefix rule. -/
def bounds (n : Int) (p : Ps) : Int × Int × Ps :=
  if isW [101, 120, 97, 99, 116] p then (n, n, optS [101, 120, 97, 99, 116] p) else if isW [111, 114, 108, 111, 110, 103, 101, 114] p then (n, 32, optS [111, 114, 108, 111, 110, 103, 101, 114] p) else if isW [117, 112, 116, 111] p then (n, noV 0 32 (optS [117, 112, 116, 111] p), noS 0 32 (optS [117, 112, 116, 111] p))
  else if isW [114, 97, 110, 103, 101] p then (noV 0 32 (optS [114, 97, 110, 103, 101] p), noV 0 32 (noS 0 32 (optS [114, 97, 110, 103, 101] p)), noS 0 32 (noS 0 32 (optS [114, 97, 110, 103, 101] p))) else (n, n, p)
def prefixRulesF (r : Rt) (p : Ps) : FmR := let p1 := chS [112, 101, 114, 109, 105, 116] [100, 101, 110, 121] p; let x := pxV p1; let b := bounds x.2 (pxS p1)
  ([], none, plF ⟨chB [112, 101, 114, 109, 105, 116] [100, 101, 110, 121] p, x.1, x.2, b.1, b.2.1⟩ r, b.2.2)
def clausesF (r : Rt) (p : Ps) : FmR := ([], some .clause, { r with maps := lastF (fun m => { m with clauses := m.clauses ++ [⟨true, [], -1, -1, -1, -1, 0⟩] }) r.maps }, mustS (isW [116, 101, 114, 109] p) (optS [116, 101, 114, 109] p))
def clauseF (r : Rt) (p : Ps) : FmR :=
  if wV p == [97, 99, 99, 101, 112, 116] || wV p == [114, 101, 106, 101, 99, 116] then ([97, 99, 116, 105, 111, 110], none, clF (fun c => { c with permit := wV p == [97, 99, 99, 101, 112, 116] }) r, wS p) else
  let k := nmK (wV p) (wV (wS p)); let p2 := wS (wS p)
  if k == [102, 114, 111, 109, 32, 108, 105, 115, 116] then (k, none, clF (fun c => { c with list := nmV p2 }) r, nmS p2)
  else if k == [102, 114, 111, 109, 32, 116, 97, 103] then (k, none, clF (fun c => { c with tag := noV 0 65535 p2 }) r, noS 0 65535 p2)
  else if k == [116, 104, 101, 110, 32, 109, 101, 116, 114, 105, 99] then (k, none, clF (fun c => { c with setM := noV 0 16777215 p2 }) r, noS 0 16777215 p2)
  else if k == [116, 104, 101, 110, 32, 116, 97, 103] then (k, none, clF (fun c => { c with setT := noV 0 65535 p2 }) r, noS 0 65535 p2)
  else if k == [116, 104, 101, 110, 32, 112, 114, 101, 102, 101, 114, 101, 110, 99, 101] then (k, none, clF (fun c => { c with setP := noV 0 1000000 p2 }) r, noS 0 1000000 p2)
  else if k == [116, 104, 101, 110, 32, 112, 114, 101, 112, 101, 110, 100] then (k, none, clF (fun c => { c with prep := noV 0 8 p2 }) r, noS 0 8 p2)
  else (k, none, r, p2.fail)
def rulesF (r : Rt) (p : Ps) : FmR := ([], some .rule, { r with acls := lastF (fun l => { l with rules := l.rules ++ [⟨true, -1, 0, 4294967295, 0, 4294967295, 0, 65535, 0, 65535⟩] }) r.acls }, mustS (isW [116, 101, 114, 109] p) (optS [116, 101, 114, 109] p))
def ruleF (r : Rt) (p : Ps) : FmR :=
  if wV p == [112, 114, 111, 116, 111, 99, 111, 108] then (wV p, none, ruF (fun x => { x with proto := protV (wS p) }) r, protS (wS p))
  else if wV p == [115, 111, 117, 114, 99, 101] then (wV p, none, ruF (fun x => { x with sa := (wiV (wS p)).1, sm := (wiV (wS p)).2 }) r, wiS (wS p))
  else if wV p == [100, 101, 115, 116, 105, 110, 97, 116, 105, 111, 110] then (wV p, none, ruF (fun x => { x with da := (wiV (wS p)).1, dm := (wiV (wS p)).2 }) r, wiS (wS p))
  else if wV p == [115, 111, 117, 114, 99, 101, 45, 112, 111, 114, 116] then (wV p, none, ruF (fun x => { x with slo := (poV (wS p)).1, shi := (poV (wS p)).2 }) r, poS (wS p))
  else if wV p == [100, 101, 115, 116, 105, 110, 97, 116, 105, 111, 110, 45, 112, 111, 114, 116] then (wV p, none, ruF (fun x => { x with dlo := (poV (wS p)).1, dhi := (poV (wS p)).2 }) r, poS (wS p))
  else if wV p == [97, 99, 99, 101, 112, 116] then ([97, 99, 116, 105, 111, 110], none, ruF (fun x => { x with permit := true }) r, wS p)
  else if wV p == [100, 105, 115, 99, 97, 114, 100] then ([97, 99, 116, 105, 111, 110], none, ruF (fun x => { x with permit := false }) r, wS p)
  else (wV p, none, r, (wS p).fail)
/-- A translation. -/
def natF (p : Ps) : Tr × Ps := let q := wS p
  if wV p == [115, 116, 97, 116, 105, 99] then (⟨1, adV q, adV (adS q), 0, 0, 0, [], 0, 0⟩, adS (adS q))
  else if wV p == [112, 111, 111, 108] then (⟨2, 0, 0, 0, 0, 0, nmV q, adV (nmS q), adV (adS (nmS q))⟩, adS (adS (nmS q)))
  else if wV p == [102, 111, 114, 119, 97, 114, 100] then let q1 := chS [116, 99, 112] [117, 100, 112] q; let q2 := adS q1; let q3 := noS 0 65535 q2; let q4 := adS q3
    (⟨3, adV q3, adV q1, if chB [116, 99, 112] [117, 100, 112] q then 6 else 17, noV 0 65535 q4, noV 0 65535 q2, [], 0, 0⟩, noS 0 65535 q4)
  else (⟨0, 0, 0, 0, 0, 0, [], 0, 0⟩, q.fail)
def translationsF (r : Rt) (p : Ps) : FmR := ([], none, { r with nat := r.nat ++ [(natF p).1] }, (natF p).2)
def staticsF (r : Rt) (p : Ps) : FmR := let q := mustS (isW [114, 111, 117, 116, 101] p) (optS [114, 111, 117, 116, 101] p)
  ([], some .static, { r with stat := r.stat ++ [⟨(pxV q).1, (pxV q).2, 0, [], false, 5, 0⟩] }, pxS q)
def staticF (r : Rt) (p : Ps) : FmR :=
  if wV p == [110, 101, 120, 116, 45, 104, 111, 112] then ([116, 97, 114, 103, 101, 116], none, stF (fun x => { x with next := adV (wS p) }) r, adS (wS p))
  else if wV p == [105, 110, 116, 101, 114, 102, 97, 99, 101] then ([116, 97, 114, 103, 101, 116], none, stF (fun x => { x with iface := nmV (wS p) }) r, nmS (wS p))
  else if wV p == [100, 105, 115, 99, 97, 114, 100] then ([116, 97, 114, 103, 101, 116], none, stF (fun x => { x with discard := true }) r, wS p)
  else if wV p == [112, 114, 101, 102, 101, 114, 101, 110, 99, 101] then (wV p, none, stF (fun x => { x with admin := noV 1 255 (wS p) }) r, noS 1 255 (wS p))
  else if wV p == [116, 97, 103] then (wV p, none, stF (fun x => { x with tag := noV 0 65535 (wS p) }) r, noS 0 65535 (wS p))
  else (wV p, none, r, (wS p).fail)
def linkStateF (blk : Bool) (r : Rt) (p : Ps) : FmR :=
  if wV p == [112, 114, 101, 102, 101, 114, 101, 110, 99, 101] then (wV p, none, { r with lsAdmin := noV 1 255 (wS p) }, noS 1 255 (wS p))
  else if wV p == [114, 97, 110, 103, 101] then ([], none, { r with ranges := r.ranges ++ [⟨noV 0 255 (wS p), (pxV (noS 0 255 (wS p))).1, (pxV (noS 0 255 (wS p))).2⟩] }, pxS (noS 0 255 (wS p)))
  else if wV p == [105, 109, 112, 111, 114, 116] then impS blk .redLS (fun x r => { r with lsRed := r.lsRed ++ [x] }) ⟨0, 0, 0, [], 1⟩ r (wS p)
  else (wV p, none, r, (wS p).fail)
def distanceF (blk : Bool) (r : Rt) (p : Ps) : FmR :=
  if wV p == [112, 114, 101, 102, 101, 114, 101, 110, 99, 101] then (wV p, none, { r with dvAdmin := noV 1 255 (wS p) }, noS 1 255 (wS p))
  else if wV p == [105, 110, 112, 117, 116] then (wV p, none, { r with dvIn := nmV (wS p) }, nmS (wS p))
  else if wV p == [111, 117, 116, 112, 117, 116] then (wV p, none, { r with dvOut := nmV (wS p) }, nmS (wS p))
  else if wV p == [105, 109, 112, 111, 114, 116] then impS blk .redDV (fun x r => { r with dvRed := r.dvRed ++ [x] }) ⟨0, 1, 0, [], 0⟩ r (wS p)
  else (wV p, none, r, (wS p).fail)
def pathF (blk : Bool) (r : Rt) (p : Ps) : FmR :=
  if wV p == [112, 114, 101, 102, 101, 114, 101, 110, 99, 101] then if chB [101, 120, 116, 101, 114, 110, 97, 108] [105, 110, 116, 101, 114, 110, 97, 108] (wS p) then (nmK (wV p) [101, 120, 116, 101, 114, 110, 97, 108], none, { r with ext := noV 1 255 (chS [101, 120, 116, 101, 114, 110, 97, 108] [105, 110, 116, 101, 114, 110, 97, 108] (wS p)) }, noS 1 255 (chS [101, 120, 116, 101, 114, 110, 97, 108] [105, 110, 116, 101, 114, 110, 97, 108] (wS p))) else (nmK (wV p) [105, 110, 116, 101, 114, 110, 97, 108], none, { r with int := noV 1 255 (chS [101, 120, 116, 101, 114, 110, 97, 108] [105, 110, 116, 101, 114, 110, 97, 108] (wS p)) }, noS 1 255 (chS [101, 120, 116, 101, 114, 110, 97, 108] [105, 110, 116, 101, 114, 110, 97, 108] (wS p)))
  else if wV p == [110, 101, 105, 103, 104, 98, 111, 114] then (nmK (wV p) (fmtA (adV (wS p))), some .neighbor, { r with nb := r.nb ++ [⟨adV (wS p), 0, [], []⟩] }, adS (wS p))
  else if wV p == [110, 101, 116, 119, 111, 114, 107] then (nmK (wV p) (pfxF (pxV (wS p)).1 (pxV (wS p)).2), none, { r with net := r.net ++ [⟨(pxV (wS p)).1, (pxV (wS p)).2⟩] }, pxS (wS p))
  else if wV p == [97, 103, 103, 114, 101, 103, 97, 116, 101] then (nmK (wV p) (pfxF (pxV (wS p)).1 (pxV (wS p)).2), none, { r with ag := r.ag ++ [⟨(pxV (wS p)).1, (pxV (wS p)).2, isW [111, 110, 108, 121] (pxS (wS p))⟩] }, optS [111, 110, 108, 121] (pxS (wS p)))
  else if wV p == [111, 114, 105, 103, 105, 110, 97, 116, 101] then (nmK (wV p) (pfxF (pxV (wS p)).1 (pxV (wS p)).2), none, { r with cd := r.cd ++ [⟨(pxV (wS p)).1, (pxV (wS p)).2, (pxV (chS [105, 102] [117, 110, 108, 101, 115, 115] (pxS (wS p)))).1, (pxV (chS [105, 102] [117, 110, 108, 101, 115, 115] (pxS (wS p)))).2, !chB [105, 102] [117, 110, 108, 101, 115, 115] (pxS (wS p))⟩] }, pxS (chS [105, 102] [117, 110, 108, 101, 115, 115] (pxS (wS p))))
  else if wV p == [105, 109, 112, 111, 114, 116] then impS blk .redPV (fun x r => { r with pvRed := r.pvRed ++ [x] }) ⟨0, 0, 0, [], 0⟩ r (wS p)
  else ([], none, r, (wS p).fail)
def neighborF (r : Rt) (p : Ps) : FmR :=
  if wV p == [97, 115] then (wV p, none, nbF' (fun x => { x with asn := noV 1 65535 (wS p) }) r, noS 1 65535 (wS p))
  else if wV p == [105, 109, 112, 111, 114, 116] then (wV p, none, nbF' (fun x => { x with inn := nmV (wS p) }) r, nmS (wS p))
  else if wV p == [101, 120, 112, 111, 114, 116] then (wV p, none, nbF' (fun x => { x with out := nmV (wS p) }) r, nmS (wS p))
  else (wV p, none, r, (wS p).fail)
/-- The nodes of a redistribution; put: how its place is written. -/
def redF' (typed : Bool) (put : (Rd → Rd) → Rt → Rt) (r : Rt) (p : Ps) : FmR :=
  if wV p == [109, 101, 116, 114, 105, 99] then (wV p, none, put (fun x => { x with metric := noV 0 16777215 (wS p) }) r, noS 0 16777215 (wS p))
  else if wV p == [116, 97, 103] then (wV p, none, put (fun x => { x with tag := noV 0 65535 (wS p) }) r, noS 0 65535 (wS p))
  else if wV p == [112, 111, 108, 105, 99, 121] then (wV p, none, put (fun x => { x with map := nmV (wS p) }) r, nmS (wS p))
  else if wV p == [116, 121, 112, 101] && typed then (wV p, none, put (fun x => { x with typ := noV 1 2 (wS p) }) r, noS 1 2 (wS p))
  else (wV p, none, r, (wS p).fail)
def fmS (f : Fm) (blk : Bool) (r : Rt) (p : Ps) : FmR := match f with
  | .top => topF r p
  | .system => systemF r p
  | .interfaces => interfacesF r p
  | .iface => ifaceF r p
  | .prefixRules => prefixRulesF r p
  | .clauses => clausesF r p
  | .clause => clauseF r p
  | .rules => rulesF r p
  | .rule => ruleF r p
  | .translations => translationsF r p
  | .statics => staticsF r p
  | .static => staticF r p
  | .linkState => linkStateF blk r p
  | .distance => distanceF blk r p
  | .path => pathF blk r p
  | .neighbor => neighborF r p
  | .redLS => redF' true (fun g r => { r with lsRed := lastF g r.lsRed }) r p
  | .redDV => redF' false (fun g r => { r with dvRed := lastF g r.dvRed }) r p
  | .redPV => redF' false (fun g r => { r with pvRed := lastF g r.pvRed }) r p
mutual
/-- What the nodes of a block make of the router: it, and the line and the error, if any. -/
def readN (f : Fm) : List (List UInt8) → List Nd → Rt → Rt × Option (Int × Int)
  | _, [], r => (r, none)
  | keys, n :: ns, r => match readOne f keys n r with
    | (r', keys', none) => readN f keys' ns r'
    | (r', _, some e) => (r', some e)
def readOne (f : Fm) (keys : List (List UInt8)) : Nd → Rt → Rt × List (List UInt8) × Option (Int × Int)
  | .mk line words blk kids, r => match fmS f blk r ⟨words, false⟩ with
    | (key, inner, r', p) =>
      if !doneB p || blk != inner.isSome then (r', keys, some (line, 2))
      else if !key.isEmpty && keys.contains key then (r', keys, some (line, 4))
      else match inner with
        | none => (r', key :: keys, none)
        | some g => match readN g [] kids r' with
          | (r'', e) => (r'', key :: keys, e)
end
end Go.Proofs.YtmddfkpkddemnaaGreatDoor
