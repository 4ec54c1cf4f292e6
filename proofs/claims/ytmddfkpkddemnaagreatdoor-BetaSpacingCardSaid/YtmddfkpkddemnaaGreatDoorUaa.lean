/- Beta: a slice of the reader that has grown, a slice of one of its lists that has grown; the forms that turn one struct. Conditions: as in BrC. -/
import Derived.Test.YtmddfkpkddemnaaGreatDoorUr
import Derived.Test.YtmddfkpkddemnaaGreatDoorUs
namespace Go.Proofs.YtmddfkpkddemnaaGreatDoor
open Go.RowKit
set_option maxRecDepth 8000 in
set_option maxHeartbeats 4000000 in
theorem rule1_any (k g o b B : Nat) (cur : Array Value) (x : Ru) (kb : Bool) (p : Ps) (w : World) (h : Ck 119 g o cur (147, kb) b B [(k, .cells #[.pointer (some ⟨g, o, none⟩)] 180 (0, 0))] w x.C p w) (he : EnvA B w) (hs : p.short) :
    Calls Tryz.prog 175 #[.pointer (some ⟨b, 0, none⟩), .pointer (some ⟨k, 0, none⟩)] w (FPost ruleF ruF Ru.C x 119 g o cur (147, kb) b B [(k, .cells #[.pointer (some ⟨g, o, none⟩)] 180 (0, 0))] w p) := by
  have H := Lib.hid h
  have HE := Lib.hid he
  have HS := Lib.hid hs
  have HKG : k ≠ g := (H.out.keep _ List.mem_cons_self).2.1
  clear h he hs
  have q0 : ((str (wV p)).toList == [112, 114, 111, 116, 111, 99, 111, 108]) = (wV p == [112, 114, 111, 116, 111, 99, 111, 108]) := by rw [toList_str]
  have q1 : ((str (wV p)).toList == [115, 111, 117, 114, 99, 101]) = (wV p == [115, 111, 117, 114, 99, 101]) := by rw [toList_str]
  have q2 : ((str (wV p)).toList == [100, 101, 115, 116, 105, 110, 97, 116, 105, 111, 110]) = (wV p == [100, 101, 115, 116, 105, 110, 97, 116, 105, 111, 110]) := by rw [toList_str]
  have q3 : ((str (wV p)).toList == [115, 111, 117, 114, 99, 101, 45, 112, 111, 114, 116]) = (wV p == [115, 111, 117, 114, 99, 101, 45, 112, 111, 114, 116]) := by rw [toList_str]
  have q4 : ((str (wV p)).toList == [100, 101, 115, 116, 105, 110, 97, 116, 105, 111, 110, 45, 112, 111, 114, 116]) = (wV p == [100, 101, 115, 116, 105, 110, 97, 116, 105, 111, 110, 45, 112, 111, 114, 116]) := by rw [toList_str]
  have q5 : ((str (wV p)).toList == [97, 99, 99, 101, 112, 116]) = (wV p == [97, 99, 99, 101, 112, 116]) := by rw [toList_str]
  have q6 : ((str (wV p)).toList == [100, 105, 115, 99, 97, 114, 100]) = (wV p == [100, 105, 115, 99, 97, 114, 100]) := by rw [toList_str]
  go_enter Tryz.func175, Tryz.ntmps175
  go_wp2_with fail
  refine (wnext_any b B p _ H.out.st).mono ?_
  rintro e w1 ⟨rfl, h1, k1⟩
  have H1 := Lib.hid (H.out.word h1 k1)
  clear h1 k1
  unfold strV
  cases e0 : (wV p == [112, 114, 111, 116, 111, 99, 111, 108]) with
  | true =>
    rw [e0] at q0
    have E : Hid (∀ r, ruleF r p = (wV p, none, ruF (fun x => { x with proto := protV (wS p) }) r, protS (wS p))) := Lib.hid (fun r => by unfold ruleF; rw [e0]; rfl)
    have fz := H1.out.frz
    have ck := H1.out.kc
    go_wp2_with fail
    have D2 := Lib.hid H1.out.drew
    clear fz ck
    go_region_held3 (fun w' => w'.cell? ⟨k, 0, none⟩ = some (.pointer (some ⟨g, o, none⟩))) (first | assumption | with_reducible exact D2.out.kc | with_reducible exact H2.out.kc | ((repeat with_reducible refine set_other HKG ?_); first | assumption | with_reducible exact H2.out.kc)) (((with_reducible refine (wprotocol_any b B (wS p) _ D2.out.st).mono ?_); rintro e w2 ⟨rfl, h2, k2⟩; have H2 := Lib.hid (D2.out.word h2 k2); clear h2 k2; have fz := H2.out.frz; obtain ⟨y1, c1⟩ := H2.out.cell (j := 1) (show 1 < 10 from by decide)))
    go_wp2_with fail
    go_ret2
    exact ⟨_, fun x => { x with proto := protV (wS p) }, _, E.out, rfl, (H2.out.put (j := 1) (show 1 < 10 from by decide) _ rfl)⟩
  | false =>
    rw [e0] at q0
    cases e1 : (wV p == [115, 111, 117, 114, 99, 101]) with
    | true =>
      rw [e1] at q1
      have E : Hid (∀ r, ruleF r p = (wV p, none, ruF (fun x => { x with sa := (wiV (wS p)).1, sm := (wiV (wS p)).2 }) r, wiS (wS p))) := Lib.hid (fun r => by unfold ruleF; rw [e0, e1]; rfl)
      have fz := H1.out.frz
      have ck := H1.out.kc
      go_wp2_with fail
      have D2 := Lib.hid H1.out.drew
      clear fz ck
      go_region_held3 (fun w' => w'.cell? ⟨k, 0, none⟩ = some (.pointer (some ⟨g, o, none⟩))) (first | assumption | with_reducible exact D2.out.kc | with_reducible exact H2.out.kc | ((repeat with_reducible refine set_other HKG ?_); first | assumption | with_reducible exact H2.out.kc)) (((with_reducible refine (wwildcard_any b B (wS p) _ D2.out.st (D2.out.env HE.out) (short_wS HS.out)).mono ?_); rintro e w2 ⟨rfl, h2, k2⟩; have H2 := Lib.hid (D2.out.word h2 k2); clear h2 k2; have fz := H2.out.frz; obtain ⟨y2, c2⟩ := H2.out.cell (j := 2) (show 2 < 10 from by decide); obtain ⟨y3, c3⟩ := H2.out.cell (j := 3) (show 3 < 10 from by decide)))
      go_wp2_with fail
      go_ret2
      exact ⟨_, fun x => { x with sa := (wiV (wS p)).1, sm := (wiV (wS p)).2 }, _, E.out, rfl, ((H2.out.put (j := 2) (show 2 < 10 from by decide) _ rfl).put (j := 3) (show 3 < 10 from by decide) _ rfl)⟩
    | false =>
      rw [e1] at q1
      cases e2 : (wV p == [100, 101, 115, 116, 105, 110, 97, 116, 105, 111, 110]) with
      | true =>
        rw [e2] at q2
        have E : Hid (∀ r, ruleF r p = (wV p, none, ruF (fun x => { x with da := (wiV (wS p)).1, dm := (wiV (wS p)).2 }) r, wiS (wS p))) := Lib.hid (fun r => by unfold ruleF; rw [e0, e1, e2]; rfl)
        have fz := H1.out.frz
        have ck := H1.out.kc
        go_wp2_with fail
        have D2 := Lib.hid H1.out.drew
        clear fz ck
        go_region_held3 (fun w' => w'.cell? ⟨k, 0, none⟩ = some (.pointer (some ⟨g, o, none⟩))) (first | assumption | with_reducible exact D2.out.kc | with_reducible exact H2.out.kc | ((repeat with_reducible refine set_other HKG ?_); first | assumption | with_reducible exact H2.out.kc)) (((with_reducible refine (wwildcard_any b B (wS p) _ D2.out.st (D2.out.env HE.out) (short_wS HS.out)).mono ?_); rintro e w2 ⟨rfl, h2, k2⟩; have H2 := Lib.hid (D2.out.word h2 k2); clear h2 k2; have fz := H2.out.frz; obtain ⟨y4, c4⟩ := H2.out.cell (j := 4) (show 4 < 10 from by decide); obtain ⟨y5, c5⟩ := H2.out.cell (j := 5) (show 5 < 10 from by decide)))
        go_wp2_with fail
        go_ret2
        exact ⟨_, fun x => { x with da := (wiV (wS p)).1, dm := (wiV (wS p)).2 }, _, E.out, rfl, ((H2.out.put (j := 4) (show 4 < 10 from by decide) _ rfl).put (j := 5) (show 5 < 10 from by decide) _ rfl)⟩
      | false =>
        rw [e2] at q2
        cases e3 : (wV p == [115, 111, 117, 114, 99, 101, 45, 112, 111, 114, 116]) with
        | true =>
          rw [e3] at q3
          have E : Hid (∀ r, ruleF r p = (wV p, none, ruF (fun x => { x with slo := (poV (wS p)).1, shi := (poV (wS p)).2 }) r, poS (wS p))) := Lib.hid (fun r => by unfold ruleF; rw [e0, e1, e2, e3]; rfl)
          have fz := H1.out.frz
          have ck := H1.out.kc
          go_wp2_with fail
          have D2 := Lib.hid H1.out.drew
          clear fz ck
          go_region_held3 (fun w' => w'.cell? ⟨k, 0, none⟩ = some (.pointer (some ⟨g, o, none⟩))) (first | assumption | with_reducible exact D2.out.kc | with_reducible exact H2.out.kc | ((repeat with_reducible refine set_other HKG ?_); first | assumption | with_reducible exact H2.out.kc)) (((with_reducible refine (wports_any b B (wS p) _ D2.out.st (D2.out.env HE.out) (short_wS HS.out)).mono ?_); rintro e w2 ⟨rfl, h2, k2⟩; have H2 := Lib.hid (D2.out.word h2 k2); clear h2 k2; have fz := H2.out.frz; obtain ⟨y6, c6⟩ := H2.out.cell (j := 6) (show 6 < 10 from by decide); obtain ⟨y7, c7⟩ := H2.out.cell (j := 7) (show 7 < 10 from by decide)))
          go_wp2_with fail
          go_ret2
          exact ⟨_, fun x => { x with slo := (poV (wS p)).1, shi := (poV (wS p)).2 }, _, E.out, rfl, ((H2.out.put (j := 6) (show 6 < 10 from by decide) _ rfl).put (j := 7) (show 7 < 10 from by decide) _ rfl)⟩
        | false =>
          rw [e3] at q3
          cases e4 : (wV p == [100, 101, 115, 116, 105, 110, 97, 116, 105, 111, 110, 45, 112, 111, 114, 116]) with
          | true =>
            rw [e4] at q4
            have E : Hid (∀ r, ruleF r p = (wV p, none, ruF (fun x => { x with dlo := (poV (wS p)).1, dhi := (poV (wS p)).2 }) r, poS (wS p))) := Lib.hid (fun r => by unfold ruleF; rw [e0, e1, e2, e3, e4]; rfl)
            have fz := H1.out.frz
            have ck := H1.out.kc
            go_wp2_with fail
            have D2 := Lib.hid H1.out.drew
            clear fz ck
            go_region_held3 (fun w' => w'.cell? ⟨k, 0, none⟩ = some (.pointer (some ⟨g, o, none⟩))) (first | assumption | with_reducible exact D2.out.kc | with_reducible exact H2.out.kc | ((repeat with_reducible refine set_other HKG ?_); first | assumption | with_reducible exact H2.out.kc)) (((with_reducible refine (wports_any b B (wS p) _ D2.out.st (D2.out.env HE.out) (short_wS HS.out)).mono ?_); rintro e w2 ⟨rfl, h2, k2⟩; have H2 := Lib.hid (D2.out.word h2 k2); clear h2 k2; have fz := H2.out.frz; obtain ⟨y8, c8⟩ := H2.out.cell (j := 8) (show 8 < 10 from by decide); obtain ⟨y9, c9⟩ := H2.out.cell (j := 9) (show 9 < 10 from by decide)))
            go_wp2_with fail
            go_ret2
            exact ⟨_, fun x => { x with dlo := (poV (wS p)).1, dhi := (poV (wS p)).2 }, _, E.out, rfl, ((H2.out.put (j := 8) (show 8 < 10 from by decide) _ rfl).put (j := 9) (show 9 < 10 from by decide) _ rfl)⟩
          | false =>
            rw [e4] at q4
            cases e5 : (wV p == [97, 99, 99, 101, 112, 116]) with
            | true =>
              rw [e5] at q5
              have E : Hid (∀ r, ruleF r p = ([97, 99, 116, 105, 111, 110], none, ruF (fun x => { x with permit := true }) r, wS p)) := Lib.hid (fun r => by unfold ruleF; rw [e0, e1, e2, e3, e4, e5]; rfl)
              have fz := H1.out.frz
              have ck := H1.out.kc
              obtain ⟨y0, c0⟩ := H1.out.cell (j := 0) (show 0 < 10 from by decide)
              have fz0 := H1.out.frz 0
              rw [Nat.add_zero] at c0 fz0
              go_wp2_with fail
              go_ret2
              exact ⟨_, fun x => { x with permit := true }, _, E.out, rfl, (H1.out.put (j := 0) (show 0 < 10 from by decide) _ rfl)⟩
            | false =>
              rw [e5] at q5
              cases e6 : (wV p == [100, 105, 115, 99, 97, 114, 100]) with
              | true =>
                rw [e6] at q6
                have E : Hid (∀ r, ruleF r p = ([97, 99, 116, 105, 111, 110], none, ruF (fun x => { x with permit := false }) r, wS p)) := Lib.hid (fun r => by unfold ruleF; rw [e0, e1, e2, e3, e4, e5, e6]; rfl)
                have fz := H1.out.frz
                have ck := H1.out.kc
                obtain ⟨y0, c0⟩ := H1.out.cell (j := 0) (show 0 < 10 from by decide)
                have fz0 := H1.out.frz 0
                rw [Nat.add_zero] at c0 fz0
                go_wp2_with fail
                go_ret2
                exact ⟨_, fun x => { x with permit := false }, _, E.out, rfl, (H1.out.put (j := 0) (show 0 < 10 from by decide) _ rfl)⟩
              | false =>
                rw [e6] at q6
                have E : Hid (∀ r, ruleF r p = (wV p, none, ruF (fun x => x) r, (wS p).fail)) := Lib.hid (fun r => by rw [ruF_id]; unfold ruleF; rw [e0, e1, e2, e3, e4, e5, e6]; rfl)
                have fz := H1.out.frz
                have ck := H1.out.kc
                have fb := H1.out.st.frz 2
                have cb := H1.out.st.bad1
                go_wp2_with fail
                go_ret2
                exact ⟨_, fun x => x, _, E.out, rfl, H1.out.bad⟩
set_option maxRecDepth 8000 in
set_option maxHeartbeats 4000000 in
theorem static1_any (k g o b B : Nat) (cur : Array Value) (x : Sr) (kb : Bool) (p : Ps) (w : World) (h : Ck 73 g o cur (147, kb) b B [(k, .cells #[.pointer (some ⟨g, o, none⟩)] 189 (0, 0))] w x.C p w) (he : EnvA B w) (hs : p.short) :
    Calls Tryz.prog 180 #[.pointer (some ⟨b, 0, none⟩), .pointer (some ⟨k, 0, none⟩)] w (FPost staticF stF Sr.C x 73 g o cur (147, kb) b B [(k, .cells #[.pointer (some ⟨g, o, none⟩)] 189 (0, 0))] w p) := by
  have H := Lib.hid h
  have HE := Lib.hid he
  have HS := Lib.hid hs
  have HKG : k ≠ g := (H.out.keep _ List.mem_cons_self).2.1
  clear h he hs
  have q0 : ((str (wV p)).toList == [110, 101, 120, 116, 45, 104, 111, 112]) = (wV p == [110, 101, 120, 116, 45, 104, 111, 112]) := by rw [toList_str]
  have q1 : ((str (wV p)).toList == [105, 110, 116, 101, 114, 102, 97, 99, 101]) = (wV p == [105, 110, 116, 101, 114, 102, 97, 99, 101]) := by rw [toList_str]
  have q2 : ((str (wV p)).toList == [100, 105, 115, 99, 97, 114, 100]) = (wV p == [100, 105, 115, 99, 97, 114, 100]) := by rw [toList_str]
  have q3 : ((str (wV p)).toList == [112, 114, 101, 102, 101, 114, 101, 110, 99, 101]) = (wV p == [112, 114, 101, 102, 101, 114, 101, 110, 99, 101]) := by rw [toList_str]
  have q4 : ((str (wV p)).toList == [116, 97, 103]) = (wV p == [116, 97, 103]) := by rw [toList_str]
  go_enter Tryz.func180, Tryz.ntmps180
  go_wp2_with fail
  refine (wnext_any b B p _ H.out.st).mono ?_
  rintro e w1 ⟨rfl, h1, k1⟩
  have H1 := Lib.hid (H.out.word h1 k1)
  clear h1 k1
  unfold strV
  cases e0 : (wV p == [110, 101, 120, 116, 45, 104, 111, 112]) with
  | true =>
    rw [e0] at q0
    have E : Hid (∀ r, staticF r p = ([116, 97, 114, 103, 101, 116], none, stF (fun x => { x with next := adV (wS p) }) r, adS (wS p))) := Lib.hid (fun r => by unfold staticF; rw [e0]; rfl)
    have fz := H1.out.frz
    have ck := H1.out.kc
    go_wp2_with fail
    have D2 := Lib.hid H1.out.drew
    clear fz ck
    go_region_held3 (fun w' => w'.cell? ⟨k, 0, none⟩ = some (.pointer (some ⟨g, o, none⟩))) (first | assumption | with_reducible exact D2.out.kc | with_reducible exact H2.out.kc | ((repeat with_reducible refine set_other HKG ?_); first | assumption | with_reducible exact H2.out.kc)) (((with_reducible refine (waddress_any b B (wS p) _ D2.out.st (D2.out.env HE.out) (short_wS HS.out)).mono ?_); rintro e w2 ⟨rfl, h2, k2⟩; have H2 := Lib.hid (D2.out.word h2 k2); clear h2 k2; have fz := H2.out.frz; obtain ⟨y2, c2⟩ := H2.out.cell (j := 2) (show 2 < 7 from by decide)))
    go_wp2_with fail
    go_ret2
    exact ⟨_, fun x => { x with next := adV (wS p) }, _, E.out, rfl, (H2.out.put (j := 2) (show 2 < 7 from by decide) _ rfl)⟩
  | false =>
    rw [e0] at q0
    cases e1 : (wV p == [105, 110, 116, 101, 114, 102, 97, 99, 101]) with
    | true =>
      rw [e1] at q1
      have E : Hid (∀ r, staticF r p = ([116, 97, 114, 103, 101, 116], none, stF (fun x => { x with iface := nmV (wS p) }) r, nmS (wS p))) := Lib.hid (fun r => by unfold staticF; rw [e0, e1]; rfl)
      have fz := H1.out.frz
      have ck := H1.out.kc
      go_wp2_with fail
      have D2 := Lib.hid H1.out.drew
      clear fz ck
      go_region_held3 (fun w' => w'.cell? ⟨k, 0, none⟩ = some (.pointer (some ⟨g, o, none⟩))) (first | assumption | with_reducible exact D2.out.kc | with_reducible exact H2.out.kc | ((repeat with_reducible refine set_other HKG ?_); first | assumption | with_reducible exact H2.out.kc)) (((with_reducible refine (wname_any b B (wS p) _ D2.out.st).mono ?_); rintro e w2 ⟨rfl, h2, k2⟩; have H2 := Lib.hid (D2.out.word h2 k2); clear h2 k2; unfold strV; have fz := H2.out.frz; obtain ⟨y3, c3⟩ := H2.out.cell (j := 3) (show 3 < 7 from by decide)))
      go_wp2_with fail
      go_ret2
      exact ⟨_, fun x => { x with iface := nmV (wS p) }, _, E.out, rfl, (H2.out.put (j := 3) (show 3 < 7 from by decide) _ rfl)⟩
    | false =>
      rw [e1] at q1
      cases e2 : (wV p == [100, 105, 115, 99, 97, 114, 100]) with
      | true =>
        rw [e2] at q2
        have E : Hid (∀ r, staticF r p = ([116, 97, 114, 103, 101, 116], none, stF (fun x => { x with discard := true }) r, wS p)) := Lib.hid (fun r => by unfold staticF; rw [e0, e1, e2]; rfl)
        have fz := H1.out.frz
        have ck := H1.out.kc
        obtain ⟨y4, c4⟩ := H1.out.cell (j := 4) (show 4 < 7 from by decide)
        go_wp2_with fail
        go_ret2
        exact ⟨_, fun x => { x with discard := true }, _, E.out, rfl, (H1.out.put (j := 4) (show 4 < 7 from by decide) _ rfl)⟩
      | false =>
        rw [e2] at q2
        cases e3 : (wV p == [112, 114, 101, 102, 101, 114, 101, 110, 99, 101]) with
        | true =>
          rw [e3] at q3
          have E : Hid (∀ r, staticF r p = (wV p, none, stF (fun x => { x with admin := noV 1 255 (wS p) }) r, noS 1 255 (wS p))) := Lib.hid (fun r => by unfold staticF; rw [e0, e1, e2, e3]; rfl)
          have fz := H1.out.frz
          have ck := H1.out.kc
          go_wp2_with fail
          have D2 := Lib.hid H1.out.drew
          clear fz ck
          go_region_held3 (fun w' => w'.cell? ⟨k, 0, none⟩ = some (.pointer (some ⟨g, o, none⟩))) (first | assumption | with_reducible exact D2.out.kc | with_reducible exact H2.out.kc | ((repeat with_reducible refine set_other HKG ?_); first | assumption | with_reducible exact H2.out.kc)) (((with_reducible refine (wnumber_any b B (wS p) 1 255 _ D2.out.st).mono ?_); rintro e w2 ⟨rfl, h2, k2⟩; have H2 := Lib.hid (D2.out.word h2 k2); clear h2 k2; have fz := H2.out.frz; obtain ⟨y5, c5⟩ := H2.out.cell (j := 5) (show 5 < 7 from by decide)))
          go_wp2_with fail
          go_ret2
          exact ⟨_, fun x => { x with admin := noV 1 255 (wS p) }, _, E.out, rfl, (H2.out.put (j := 5) (show 5 < 7 from by decide) _ rfl)⟩
        | false =>
          rw [e3] at q3
          cases e4 : (wV p == [116, 97, 103]) with
          | true =>
            rw [e4] at q4
            have E : Hid (∀ r, staticF r p = (wV p, none, stF (fun x => { x with tag := noV 0 65535 (wS p) }) r, noS 0 65535 (wS p))) := Lib.hid (fun r => by unfold staticF; rw [e0, e1, e2, e3, e4]; rfl)
            have fz := H1.out.frz
            have ck := H1.out.kc
            go_wp2_with fail
            have D2 := Lib.hid H1.out.drew
            clear fz ck
            go_region_held3 (fun w' => w'.cell? ⟨k, 0, none⟩ = some (.pointer (some ⟨g, o, none⟩))) (first | assumption | with_reducible exact D2.out.kc | with_reducible exact H2.out.kc | ((repeat with_reducible refine set_other HKG ?_); first | assumption | with_reducible exact H2.out.kc)) (((with_reducible refine (wnumber_any b B (wS p) 0 65535 _ D2.out.st).mono ?_); rintro e w2 ⟨rfl, h2, k2⟩; have H2 := Lib.hid (D2.out.word h2 k2); clear h2 k2; have fz := H2.out.frz; obtain ⟨y6, c6⟩ := H2.out.cell (j := 6) (show 6 < 7 from by decide)))
            go_wp2_with fail
            go_ret2
            exact ⟨_, fun x => { x with tag := noV 0 65535 (wS p) }, _, E.out, rfl, (H2.out.put (j := 6) (show 6 < 7 from by decide) _ rfl)⟩
          | false =>
            rw [e4] at q4
            have E : Hid (∀ r, staticF r p = (wV p, none, stF (fun x => x) r, (wS p).fail)) := Lib.hid (fun r => by rw [stF_id]; unfold staticF; rw [e0, e1, e2, e3, e4]; rfl)
            have fz := H1.out.frz
            have ck := H1.out.kc
            have fb := H1.out.st.frz 2
            have cb := H1.out.st.bad1
            go_wp2_with fail
            go_ret2
            exact ⟨_, fun x => x, _, E.out, rfl, H1.out.bad⟩
set_option maxRecDepth 8000 in
set_option maxHeartbeats 4000000 in
theorem neighbor1_any (k g o b B : Nat) (cur : Array Value) (x : Nb) (kb : Bool) (p : Ps) (w : World) (h : Ck 124 g o cur (147, kb) b B [(k, .cells #[.pointer (some ⟨g, o, none⟩)] 219 (0, 0))] w x.C p w) (he : EnvA B w) (hs : p.short) :
    Calls Tryz.prog 186 #[.pointer (some ⟨b, 0, none⟩), .pointer (some ⟨k, 0, none⟩)] w (FPost neighborF nbF' Nb.C x 124 g o cur (147, kb) b B [(k, .cells #[.pointer (some ⟨g, o, none⟩)] 219 (0, 0))] w p) := by
  have H := Lib.hid h
  have HE := Lib.hid he
  have HS := Lib.hid hs
  have HKG : k ≠ g := (H.out.keep _ List.mem_cons_self).2.1
  clear h he hs
  have q0 : ((str (wV p)).toList == [97, 115]) = (wV p == [97, 115]) := by rw [toList_str]
  have q1 : ((str (wV p)).toList == [105, 109, 112, 111, 114, 116]) = (wV p == [105, 109, 112, 111, 114, 116]) := by rw [toList_str]
  have q2 : ((str (wV p)).toList == [101, 120, 112, 111, 114, 116]) = (wV p == [101, 120, 112, 111, 114, 116]) := by rw [toList_str]
  go_enter Tryz.func186, Tryz.ntmps186
  go_wp2_with fail
  refine (wnext_any b B p _ H.out.st).mono ?_
  rintro e w1 ⟨rfl, h1, k1⟩
  have H1 := Lib.hid (H.out.word h1 k1)
  clear h1 k1
  unfold strV
  cases e0 : (wV p == [97, 115]) with
  | true =>
    rw [e0] at q0
    have E : Hid (∀ r, neighborF r p = (wV p, none, nbF' (fun x => { x with asn := noV 1 65535 (wS p) }) r, noS 1 65535 (wS p))) := Lib.hid (fun r => by unfold neighborF; rw [e0]; rfl)
    have fz := H1.out.frz
    have ck := H1.out.kc
    go_wp2_with fail
    have D2 := Lib.hid H1.out.drew
    clear fz ck
    go_region_held3 (fun w' => w'.cell? ⟨k, 0, none⟩ = some (.pointer (some ⟨g, o, none⟩))) (first | assumption | with_reducible exact D2.out.kc | with_reducible exact H2.out.kc | ((repeat with_reducible refine set_other HKG ?_); first | assumption | with_reducible exact H2.out.kc)) (((with_reducible refine (wnumber_any b B (wS p) 1 65535 _ D2.out.st).mono ?_); rintro e w2 ⟨rfl, h2, k2⟩; have H2 := Lib.hid (D2.out.word h2 k2); clear h2 k2; have fz := H2.out.frz; obtain ⟨y1, c1⟩ := H2.out.cell (j := 1) (show 1 < 4 from by decide)))
    go_wp2_with fail
    go_ret2
    exact ⟨_, fun x => { x with asn := noV 1 65535 (wS p) }, _, E.out, rfl, (H2.out.put (j := 1) (show 1 < 4 from by decide) _ rfl)⟩
  | false =>
    rw [e0] at q0
    cases e1 : (wV p == [105, 109, 112, 111, 114, 116]) with
    | true =>
      rw [e1] at q1
      have E : Hid (∀ r, neighborF r p = (wV p, none, nbF' (fun x => { x with inn := nmV (wS p) }) r, nmS (wS p))) := Lib.hid (fun r => by unfold neighborF; rw [e0, e1]; rfl)
      have fz := H1.out.frz
      have ck := H1.out.kc
      go_wp2_with fail
      have D2 := Lib.hid H1.out.drew
      clear fz ck
      go_region_held3 (fun w' => w'.cell? ⟨k, 0, none⟩ = some (.pointer (some ⟨g, o, none⟩))) (first | assumption | with_reducible exact D2.out.kc | with_reducible exact H2.out.kc | ((repeat with_reducible refine set_other HKG ?_); first | assumption | with_reducible exact H2.out.kc)) (((with_reducible refine (wname_any b B (wS p) _ D2.out.st).mono ?_); rintro e w2 ⟨rfl, h2, k2⟩; have H2 := Lib.hid (D2.out.word h2 k2); clear h2 k2; unfold strV; have fz := H2.out.frz; obtain ⟨y2, c2⟩ := H2.out.cell (j := 2) (show 2 < 4 from by decide)))
      go_wp2_with fail
      go_ret2
      exact ⟨_, fun x => { x with inn := nmV (wS p) }, _, E.out, rfl, (H2.out.put (j := 2) (show 2 < 4 from by decide) _ rfl)⟩
    | false =>
      rw [e1] at q1
      cases e2 : (wV p == [101, 120, 112, 111, 114, 116]) with
      | true =>
        rw [e2] at q2
        have E : Hid (∀ r, neighborF r p = (wV p, none, nbF' (fun x => { x with out := nmV (wS p) }) r, nmS (wS p))) := Lib.hid (fun r => by unfold neighborF; rw [e0, e1, e2]; rfl)
        have fz := H1.out.frz
        have ck := H1.out.kc
        go_wp2_with fail
        have D2 := Lib.hid H1.out.drew
        clear fz ck
        go_region_held3 (fun w' => w'.cell? ⟨k, 0, none⟩ = some (.pointer (some ⟨g, o, none⟩))) (first | assumption | with_reducible exact D2.out.kc | with_reducible exact H2.out.kc | ((repeat with_reducible refine set_other HKG ?_); first | assumption | with_reducible exact H2.out.kc)) (((with_reducible refine (wname_any b B (wS p) _ D2.out.st).mono ?_); rintro e w2 ⟨rfl, h2, k2⟩; have H2 := Lib.hid (D2.out.word h2 k2); clear h2 k2; unfold strV; have fz := H2.out.frz; obtain ⟨y3, c3⟩ := H2.out.cell (j := 3) (show 3 < 4 from by decide)))
        go_wp2_with fail
        go_ret2
        exact ⟨_, fun x => { x with out := nmV (wS p) }, _, E.out, rfl, (H2.out.put (j := 3) (show 3 < 4 from by decide) _ rfl)⟩
      | false =>
        rw [e2] at q2
        have E : Hid (∀ r, neighborF r p = (wV p, none, nbF' (fun x => x) r, (wS p).fail)) := Lib.hid (fun r => by rw [nbF_id]; unfold neighborF; rw [e0, e1, e2]; rfl)
        have fz := H1.out.frz
        have ck := H1.out.kc
        have fb := H1.out.st.frz 2
        have cb := H1.out.st.bad1
        go_wp2_with fail
        go_ret2
        exact ⟨_, fun x => x, _, E.out, rfl, H1.out.bad⟩
end Go.Proofs.YtmddfkpkddemnaaGreatDoor
namespace Go.Proofs.YtmddfkpkddemnaaGreatDoor
open Go.RowKit
set_option maxRecDepth 8000 in
set_option maxHeartbeats 4000000 in
theorem iface1_any (k g o b B : Nat) (cur : Array Value) (x : If) (kb : Bool) (p : Ps) (w : World) (h : Ck 67 g o cur (147, kb) b B [(k, .cells #[.pointer (some ⟨g, o, none⟩)] 173 (0, 0))] w x.C p w) (he : EnvA B w) (hs : p.short) :
    Calls Tryz.prog 170 #[.pointer (some ⟨b, 0, none⟩), .pointer (some ⟨k, 0, none⟩)] w (FPost ifaceF ifF If.C x 67 g o cur (147, kb) b B [(k, .cells #[.pointer (some ⟨g, o, none⟩)] 173 (0, 0))] w p) := by
  have H := Lib.hid h
  have HE := Lib.hid he
  have HS := Lib.hid hs
  have HKG : k ≠ g := (H.out.keep _ List.mem_cons_self).2.1
  clear h he hs
  have q0 : ((str (wV p)).toList == [97, 100, 100, 114, 101, 115, 115]) = (wV p == [97, 100, 100, 114, 101, 115, 115]) := by rw [toList_str]
  have q1 : ((str (wV p)).toList == [118, 108, 97, 110]) = (wV p == [118, 108, 97, 110]) := by rw [toList_str]
  have q2 : ((str (wV p)).toList == [100, 105, 115, 97, 98, 108, 101]) = (wV p == [100, 105, 115, 97, 98, 108, 101]) := by rw [toList_str]
  have q3 : ((str (wV p)).toList == [108, 105, 110, 107, 45, 115, 116, 97, 116, 101]) = (wV p == [108, 105, 110, 107, 45, 115, 116, 97, 116, 101]) := by rw [toList_str]
  have q4 : ((str (wV p)).toList == [100, 105, 115, 116, 97, 110, 99, 101, 45, 118, 101, 99, 116, 111, 114]) = (wV p == [100, 105, 115, 116, 97, 110, 99, 101, 45, 118, 101, 99, 116, 111, 114]) := by rw [toList_str]
  have q5 : ((str (wV p)).toList == [105, 110, 112, 117, 116]) = (wV p == [105, 110, 112, 117, 116]) := by rw [toList_str]
  have q6 : ((str (wV p)).toList == [111, 117, 116, 112, 117, 116]) = (wV p == [111, 117, 116, 112, 117, 116]) := by rw [toList_str]
  have q7 : ((str (wV p)).toList == [115, 105, 100, 101]) = (wV p == [115, 105, 100, 101]) := by rw [toList_str]
  go_enter Tryz.func170, Tryz.ntmps170
  go_wp2_with fail
  refine (wnext_any b B p _ H.out.st).mono ?_
  rintro e w1 ⟨rfl, h1, k1⟩
  have H1 := Lib.hid (H.out.word h1 k1)
  clear h1 k1
  unfold strV
  cases e0 : (wV p == [97, 100, 100, 114, 101, 115, 115]) with
  | true =>
    rw [e0] at q0
    have E : Hid (∀ r, ifaceF r p = (wV p, none, ifF (fun x => { x with addr := (hoV (wS p)).1, len := (hoV (wS p)).2 }) r, hoS (wS p))) := Lib.hid (fun r => by unfold ifaceF; rw [e0]; rfl)
    have fz := H1.out.frz
    have ck := H1.out.kc
    go_wp2_with fail
    have D2 := Lib.hid H1.out.drew
    clear fz ck
    go_region_held3 (fun w' => w'.cell? ⟨k, 0, none⟩ = some (.pointer (some ⟨g, o, none⟩))) (first | assumption | with_reducible exact D2.out.kc | with_reducible exact H2.out.kc | ((repeat with_reducible refine set_other HKG ?_); first | assumption | with_reducible exact H2.out.kc)) (((with_reducible refine (whost_any b B (wS p) _ D2.out.st (D2.out.env HE.out) (short_wS HS.out)).mono ?_); rintro e w2 ⟨rfl, h2, k2⟩; have H2 := Lib.hid (D2.out.word h2 k2); clear h2 k2; have fz := H2.out.frz; obtain ⟨y1, c1⟩ := H2.out.cell (j := 1) (show 1 < 12 from by decide); obtain ⟨y2, c2⟩ := H2.out.cell (j := 2) (show 2 < 12 from by decide)))
    go_wp2_with fail
    go_ret2
    exact ⟨_, fun x => { x with addr := (hoV (wS p)).1, len := (hoV (wS p)).2 }, _, E.out, rfl, ((H2.out.put (j := 1) (show 1 < 12 from by decide) _ rfl).put (j := 2) (show 2 < 12 from by decide) _ rfl)⟩
  | false =>
    rw [e0] at q0
    cases e1 : (wV p == [118, 108, 97, 110]) with
    | true =>
      rw [e1] at q1
      have E : Hid (∀ r, ifaceF r p = (wV p, none, ifF (fun x => { x with vlan := noV 0 4094 (wS p) }) r, noS 0 4094 (wS p))) := Lib.hid (fun r => by unfold ifaceF; rw [e0, e1]; rfl)
      have fz := H1.out.frz
      have ck := H1.out.kc
      go_wp2_with fail
      have D2 := Lib.hid H1.out.drew
      clear fz ck
      go_region_held3 (fun w' => w'.cell? ⟨k, 0, none⟩ = some (.pointer (some ⟨g, o, none⟩))) (first | assumption | with_reducible exact D2.out.kc | with_reducible exact H2.out.kc | ((repeat with_reducible refine set_other HKG ?_); first | assumption | with_reducible exact H2.out.kc)) (((with_reducible refine (wnumber_any b B (wS p) 0 4094 _ D2.out.st).mono ?_); rintro e w2 ⟨rfl, h2, k2⟩; have H2 := Lib.hid (D2.out.word h2 k2); clear h2 k2; have fz := H2.out.frz; obtain ⟨y3, c3⟩ := H2.out.cell (j := 3) (show 3 < 12 from by decide)))
      go_wp2_with fail
      go_ret2
      exact ⟨_, fun x => { x with vlan := noV 0 4094 (wS p) }, _, E.out, rfl, (H2.out.put (j := 3) (show 3 < 12 from by decide) _ rfl)⟩
    | false =>
      rw [e1] at q1
      cases e2 : (wV p == [100, 105, 115, 97, 98, 108, 101]) with
      | true =>
        rw [e2] at q2
        have E : Hid (∀ r, ifaceF r p = (wV p, none, ifF (fun x => { x with down := true }) r, wS p)) := Lib.hid (fun r => by unfold ifaceF; rw [e0, e1, e2]; rfl)
        have fz := H1.out.frz
        have ck := H1.out.kc
        obtain ⟨y4, c4⟩ := H1.out.cell (j := 4) (show 4 < 12 from by decide)
        go_wp2_with fail
        go_ret2
        exact ⟨_, fun x => { x with down := true }, _, E.out, rfl, (H1.out.put (j := 4) (show 4 < 12 from by decide) _ rfl)⟩
      | false =>
        rw [e2] at q2
        cases e3 : (wV p == [108, 105, 110, 107, 45, 115, 116, 97, 116, 101]) with
        | true =>
          rw [e3] at q3
          cases c : isW [99, 111, 115, 116] (noS 0 255 (mustS (isW [97, 114, 101, 97] (wS p)) (optS [97, 114, 101, 97] (wS p)))) with
          | true =>
            have E : Hid (∀ r, ifaceF r p = (wV p, none, ifF (fun x => { x with ls := true, area := noV 0 255 (mustS (isW [97, 114, 101, 97] (wS p)) (optS [97, 114, 101, 97] (wS p))), cost := noV 1 65535 (optS [99, 111, 115, 116] (noS 0 255 (mustS (isW [97, 114, 101, 97] (wS p)) (optS [97, 114, 101, 97] (wS p))))) }) r, noS 1 65535 (optS [99, 111, 115, 116] (noS 0 255 (mustS (isW [97, 114, 101, 97] (wS p)) (optS [97, 114, 101, 97] (wS p))))))) := Lib.hid (fun r => by unfold ifaceF; rw [e0, e1, e2, e3]; show (_, _, ifF (fun x => { x with ls := true, area := (ifLS (wS p)).1, cost := (ifLS (wS p)).2.1 }) r, (ifLS (wS p)).2.2) = _; have hl : ifLS (wS p) = (noV 0 255 (mustS (isW [97, 114, 101, 97] (wS p)) (optS [97, 114, 101, 97] (wS p))), noV 1 65535 (optS [99, 111, 115, 116] (noS 0 255 (mustS (isW [97, 114, 101, 97] (wS p)) (optS [97, 114, 101, 97] (wS p))))), noS 1 65535 (optS [99, 111, 115, 116] (noS 0 255 (mustS (isW [97, 114, 101, 97] (wS p)) (optS [97, 114, 101, 97] (wS p)))))) := (by unfold ifLS; dsimp only; rw [c]; rfl); rw [hl])
            have HC := Lib.hid c
            clear c
            have fz := H1.out.frz
            have ck := H1.out.kc
            go_wp2_with fail
            clear fz ck
            refine (woption_any b B (wS p) [97, 114, 101, 97] _ H1.out.st).mono ?_
            rintro e w2 ⟨rfl, h2, k2⟩
            have H2 := Lib.hid (H1.out.word h2 k2)
            clear h2 k2
            have fz := H2.out.frz
            have ck := H2.out.kc
            go_wp2_with fail
            clear fz ck
            refine (wmust_any b B (optS [97, 114, 101, 97] (wS p)) _ _ H2.out.st).mono ?_
            rintro e w3 ⟨rfl, h3, k3⟩
            have H3 := Lib.hid (H2.out.word h3 k3)
            clear h3 k3
            have fz := H3.out.frz
            have ck := H3.out.kc
            go_wp2_with fail
            have D4 := Lib.hid H3.out.drew
            clear fz ck
            go_region_held3 (fun w' => w'.cell? ⟨k, 0, none⟩ = some (.pointer (some ⟨g, o, none⟩))) (first | assumption | with_reducible exact D4.out.kc | with_reducible exact H4.out.kc | ((repeat with_reducible refine set_other HKG ?_); first | assumption | with_reducible exact H4.out.kc)) (((with_reducible refine (wnumber_any b B (mustS (isW [97, 114, 101, 97] (wS p)) (optS [97, 114, 101, 97] (wS p))) 0 255 _ D4.out.st).mono ?_); rintro e w4 ⟨rfl, h4, k4⟩; have H4 := Lib.hid (D4.out.word h4 k4); clear h4 k4; have fz := H4.out.frz; obtain ⟨y5, c5⟩ := H4.out.cell (j := 5) (show 5 < 12 from by decide); obtain ⟨y6, c6⟩ := H4.out.cell (j := 6) (show 6 < 12 from by decide); obtain ⟨y7, c7⟩ := H4.out.cell (j := 7) (show 7 < 12 from by decide)))
            have fz := H4.out.frz
            have ck := H4.out.kc
            go_wp2_with fail
            clear fz ck
            refine (woption_any b B (noS 0 255 (mustS (isW [97, 114, 101, 97] (wS p)) (optS [97, 114, 101, 97] (wS p)))) [99, 111, 115, 116] _ (((H4.out.put (j := 5) (show 5 < 12 from by decide) _ rfl).put (j := 6) (show 6 < 12 from by decide) _ rfl).put (j := 7) (show 7 < 12 from by decide) _ rfl).st).mono ?_
            rintro e w5 ⟨rfl, h5, k5⟩
            have H5 := Lib.hid ((((H4.out.put (j := 5) (show 5 < 12 from by decide) _ rfl).put (j := 6) (show 6 < 12 from by decide) _ rfl).put (j := 7) (show 7 < 12 from by decide) _ rfl).word h5 k5)
            clear h5 k5
            rw [HC.out]
            have fz := H5.out.frz
            have ck := H5.out.kc
            go_wp2_with fail
            have D6 := Lib.hid H5.out.drew
            clear fz ck
            go_region_held3 (fun w' => w'.cell? ⟨k, 0, none⟩ = some (.pointer (some ⟨g, o, none⟩))) (first | assumption | with_reducible exact D6.out.kc | with_reducible exact H6.out.kc | ((repeat with_reducible refine set_other HKG ?_); first | assumption | with_reducible exact H6.out.kc)) (((with_reducible refine (wnumber_any b B (optS [99, 111, 115, 116] (noS 0 255 (mustS (isW [97, 114, 101, 97] (wS p)) (optS [97, 114, 101, 97] (wS p))))) 1 65535 _ D6.out.st).mono ?_); rintro e w6 ⟨rfl, h6, k6⟩; have H6 := Lib.hid (D6.out.word h6 k6); clear h6 k6; have fz := H6.out.frz; obtain ⟨y7, c7⟩ := H6.out.cell (j := 7) (show 7 < 12 from by decide)))
            go_wp2_with fail
            go_ret2
            exact ⟨_, fun x => { x with ls := true, area := noV 0 255 (mustS (isW [97, 114, 101, 97] (wS p)) (optS [97, 114, 101, 97] (wS p))), cost := noV 1 65535 (optS [99, 111, 115, 116] (noS 0 255 (mustS (isW [97, 114, 101, 97] (wS p)) (optS [97, 114, 101, 97] (wS p))))) }, _, E.out, rfl, (H6.out.put (j := 7) (show 7 < 12 from by decide) _ rfl)⟩
          | false =>
            have E : Hid (∀ r, ifaceF r p = (wV p, none, ifF (fun x => { x with ls := true, area := noV 0 255 (mustS (isW [97, 114, 101, 97] (wS p)) (optS [97, 114, 101, 97] (wS p))), cost := 1 }) r, (noS 0 255 (mustS (isW [97, 114, 101, 97] (wS p)) (optS [97, 114, 101, 97] (wS p)))))) := Lib.hid (fun r => by unfold ifaceF; rw [e0, e1, e2, e3]; show (_, _, ifF (fun x => { x with ls := true, area := (ifLS (wS p)).1, cost := (ifLS (wS p)).2.1 }) r, (ifLS (wS p)).2.2) = _; have hl : ifLS (wS p) = (noV 0 255 (mustS (isW [97, 114, 101, 97] (wS p)) (optS [97, 114, 101, 97] (wS p))), 1, (noS 0 255 (mustS (isW [97, 114, 101, 97] (wS p)) (optS [97, 114, 101, 97] (wS p))))) := (by unfold ifLS; dsimp only; rw [c]; rfl); rw [hl])
            have HC := Lib.hid c
            clear c
            have fz := H1.out.frz
            have ck := H1.out.kc
            go_wp2_with fail
            clear fz ck
            refine (woption_any b B (wS p) [97, 114, 101, 97] _ H1.out.st).mono ?_
            rintro e w2 ⟨rfl, h2, k2⟩
            have H2 := Lib.hid (H1.out.word h2 k2)
            clear h2 k2
            have fz := H2.out.frz
            have ck := H2.out.kc
            go_wp2_with fail
            clear fz ck
            refine (wmust_any b B (optS [97, 114, 101, 97] (wS p)) _ _ H2.out.st).mono ?_
            rintro e w3 ⟨rfl, h3, k3⟩
            have H3 := Lib.hid (H2.out.word h3 k3)
            clear h3 k3
            have fz := H3.out.frz
            have ck := H3.out.kc
            go_wp2_with fail
            have D4 := Lib.hid H3.out.drew
            clear fz ck
            go_region_held3 (fun w' => w'.cell? ⟨k, 0, none⟩ = some (.pointer (some ⟨g, o, none⟩))) (first | assumption | with_reducible exact D4.out.kc | with_reducible exact H4.out.kc | ((repeat with_reducible refine set_other HKG ?_); first | assumption | with_reducible exact H4.out.kc)) (((with_reducible refine (wnumber_any b B (mustS (isW [97, 114, 101, 97] (wS p)) (optS [97, 114, 101, 97] (wS p))) 0 255 _ D4.out.st).mono ?_); rintro e w4 ⟨rfl, h4, k4⟩; have H4 := Lib.hid (D4.out.word h4 k4); clear h4 k4; have fz := H4.out.frz; obtain ⟨y5, c5⟩ := H4.out.cell (j := 5) (show 5 < 12 from by decide); obtain ⟨y6, c6⟩ := H4.out.cell (j := 6) (show 6 < 12 from by decide); obtain ⟨y7, c7⟩ := H4.out.cell (j := 7) (show 7 < 12 from by decide)))
            have fz := H4.out.frz
            have ck := H4.out.kc
            go_wp2_with fail
            clear fz ck
            refine (woption_any b B (noS 0 255 (mustS (isW [97, 114, 101, 97] (wS p)) (optS [97, 114, 101, 97] (wS p)))) [99, 111, 115, 116] _ (((H4.out.put (j := 5) (show 5 < 12 from by decide) _ rfl).put (j := 6) (show 6 < 12 from by decide) _ rfl).put (j := 7) (show 7 < 12 from by decide) _ rfl).st).mono ?_
            rintro e w5 ⟨rfl, h5, k5⟩
            rw [optS_no HC.out] at h5
            have H5 := Lib.hid ((((H4.out.put (j := 5) (show 5 < 12 from by decide) _ rfl).put (j := 6) (show 6 < 12 from by decide) _ rfl).put (j := 7) (show 7 < 12 from by decide) _ rfl).word h5 k5)
            clear h5 k5
            rw [HC.out]
            have fz := H5.out.frz
            have ck := H5.out.kc
            go_wp2_with fail
            go_ret2
            exact ⟨_, fun x => { x with ls := true, area := noV 0 255 (mustS (isW [97, 114, 101, 97] (wS p)) (optS [97, 114, 101, 97] (wS p))), cost := 1 }, _, E.out, rfl, H5.out⟩
        | false =>
          rw [e3] at q3
          cases e4 : (wV p == [100, 105, 115, 116, 97, 110, 99, 101, 45, 118, 101, 99, 116, 111, 114]) with
          | true =>
            rw [e4] at q4
            have E : Hid (∀ r, ifaceF r p = (wV p, none, ifF (fun x => { x with dv := true }) r, wS p)) := Lib.hid (fun r => by unfold ifaceF; rw [e0, e1, e2, e3, e4]; rfl)
            have fz := H1.out.frz
            have ck := H1.out.kc
            obtain ⟨y8, c8⟩ := H1.out.cell (j := 8) (show 8 < 12 from by decide)
            go_wp2_with fail
            go_ret2
            exact ⟨_, fun x => { x with dv := true }, _, E.out, rfl, (H1.out.put (j := 8) (show 8 < 12 from by decide) _ rfl)⟩
          | false =>
            rw [e4] at q4
            cases e5 : (wV p == [105, 110, 112, 117, 116]) with
            | true =>
              rw [e5] at q5
              have E : Hid (∀ r, ifaceF r p = (wV p, none, ifF (fun x => { x with inn := nmV (wS p) }) r, nmS (wS p))) := Lib.hid (fun r => by unfold ifaceF; rw [e0, e1, e2, e3, e4, e5]; rfl)
              have fz := H1.out.frz
              have ck := H1.out.kc
              go_wp2_with fail
              have D2 := Lib.hid H1.out.drew
              clear fz ck
              go_region_held3 (fun w' => w'.cell? ⟨k, 0, none⟩ = some (.pointer (some ⟨g, o, none⟩))) (first | assumption | with_reducible exact D2.out.kc | with_reducible exact H2.out.kc | ((repeat with_reducible refine set_other HKG ?_); first | assumption | with_reducible exact H2.out.kc)) (((with_reducible refine (wname_any b B (wS p) _ D2.out.st).mono ?_); rintro e w2 ⟨rfl, h2, k2⟩; have H2 := Lib.hid (D2.out.word h2 k2); clear h2 k2; unfold strV; have fz := H2.out.frz; obtain ⟨y9, c9⟩ := H2.out.cell (j := 9) (show 9 < 12 from by decide)))
              go_wp2_with fail
              go_ret2
              exact ⟨_, fun x => { x with inn := nmV (wS p) }, _, E.out, rfl, (H2.out.put (j := 9) (show 9 < 12 from by decide) _ rfl)⟩
            | false =>
              rw [e5] at q5
              cases e6 : (wV p == [111, 117, 116, 112, 117, 116]) with
              | true =>
                rw [e6] at q6
                have E : Hid (∀ r, ifaceF r p = (wV p, none, ifF (fun x => { x with out := nmV (wS p) }) r, nmS (wS p))) := Lib.hid (fun r => by unfold ifaceF; rw [e0, e1, e2, e3, e4, e5, e6]; rfl)
                have fz := H1.out.frz
                have ck := H1.out.kc
                go_wp2_with fail
                have D2 := Lib.hid H1.out.drew
                clear fz ck
                go_region_held3 (fun w' => w'.cell? ⟨k, 0, none⟩ = some (.pointer (some ⟨g, o, none⟩))) (first | assumption | with_reducible exact D2.out.kc | with_reducible exact H2.out.kc | ((repeat with_reducible refine set_other HKG ?_); first | assumption | with_reducible exact H2.out.kc)) (((with_reducible refine (wname_any b B (wS p) _ D2.out.st).mono ?_); rintro e w2 ⟨rfl, h2, k2⟩; have H2 := Lib.hid (D2.out.word h2 k2); clear h2 k2; unfold strV; have fz := H2.out.frz; obtain ⟨y10, c10⟩ := H2.out.cell (j := 10) (show 10 < 12 from by decide)))
                go_wp2_with fail
                go_ret2
                exact ⟨_, fun x => { x with out := nmV (wS p) }, _, E.out, rfl, (H2.out.put (j := 10) (show 10 < 12 from by decide) _ rfl)⟩
              | false =>
                rw [e6] at q6
                cases e7 : (wV p == [115, 105, 100, 101]) with
                | true =>
                  rw [e7] at q7
                  cases c : chB [105, 110, 115, 105, 100, 101] [111, 117, 116, 115, 105, 100, 101] (wS p) with
                  | true =>
                    have E : Hid (∀ r, ifaceF r p = (wV p, none, ifF (fun x => { x with side := 1 }) r, chS [105, 110, 115, 105, 100, 101] [111, 117, 116, 115, 105, 100, 101] (wS p))) := Lib.hid (fun r => by unfold ifaceF; rw [e0, e1, e2, e3, e4, e5, e6, e7, c]; rfl)
                    have HC := Lib.hid c
                    clear c
                    have fz := H1.out.frz
                    have ck := H1.out.kc
                    obtain ⟨y11, c11⟩ := H1.out.cell (j := 11) (show 11 < 12 from by decide)
                    go_wp2_with fail
                    clear fz ck
                    refine (wchoice_any b B (wS p) [105, 110, 115, 105, 100, 101] [111, 117, 116, 115, 105, 100, 101] _ (H1.out.put (j := 11) (show 11 < 12 from by decide) _ rfl).st).mono ?_
                    rintro e w2 ⟨rfl, h2, k2⟩
                    have H2 := Lib.hid ((H1.out.put (j := 11) (show 11 < 12 from by decide) _ rfl).word h2 k2)
                    clear h2 k2
                    rw [HC.out]
                    have fz := H2.out.frz
                    have ck := H2.out.kc
                    obtain ⟨y11, c11⟩ := H2.out.cell (j := 11) (show 11 < 12 from by decide)
                    go_wp2_with fail
                    go_ret2
                    exact ⟨_, fun x => { x with side := 1 }, _, E.out, rfl, (H2.out.put (j := 11) (show 11 < 12 from by decide) _ rfl)⟩
                  | false =>
                    have E : Hid (∀ r, ifaceF r p = (wV p, none, ifF (fun x => { x with side := 2 }) r, chS [105, 110, 115, 105, 100, 101] [111, 117, 116, 115, 105, 100, 101] (wS p))) := Lib.hid (fun r => by unfold ifaceF; rw [e0, e1, e2, e3, e4, e5, e6, e7, c]; rfl)
                    have HC := Lib.hid c
                    clear c
                    have fz := H1.out.frz
                    have ck := H1.out.kc
                    obtain ⟨y11, c11⟩ := H1.out.cell (j := 11) (show 11 < 12 from by decide)
                    go_wp2_with fail
                    clear fz ck
                    refine (wchoice_any b B (wS p) [105, 110, 115, 105, 100, 101] [111, 117, 116, 115, 105, 100, 101] _ (H1.out.put (j := 11) (show 11 < 12 from by decide) _ rfl).st).mono ?_
                    rintro e w2 ⟨rfl, h2, k2⟩
                    have H2 := Lib.hid ((H1.out.put (j := 11) (show 11 < 12 from by decide) _ rfl).word h2 k2)
                    clear h2 k2
                    rw [HC.out]
                    have fz := H2.out.frz
                    have ck := H2.out.kc
                    go_wp2_with fail
                    go_ret2
                    exact ⟨_, fun x => { x with side := 2 }, _, E.out, rfl, H2.out⟩
                | false =>
                  rw [e7] at q7
                  have E : Hid (∀ r, ifaceF r p = (wV p, none, ifF (fun x => x) r, (wS p).fail)) := Lib.hid (fun r => by rw [ifF_id]; unfold ifaceF; rw [e0, e1, e2, e3, e4, e5, e6, e7]; rfl)
                  have fz := H1.out.frz
                  have ck := H1.out.kc
                  have fb := H1.out.st.frz 2
                  have cb := H1.out.st.bad1
                  go_wp2_with fail
                  go_ret2
                  exact ⟨_, fun x => x, _, E.out, rfl, H1.out.bad⟩
end Go.Proofs.YtmddfkpkddemnaaGreatDoor
namespace Go.Proofs.YtmddfkpkddemnaaGreatDoor
open Go.RowKit
section
variable {α β : Type} {E E' : TypeId} {n g B b j gg cap : Nat} {C : α → Array Value} {D : β → Array Value} {v v' V : Value} {l l' : List α} {l0 : List β} {m m' : β} {K : Kept} {w0 w w1 : World} {r r' : Rt} {T : TypeId × Bool} {p : Ps} {pre post ex : List Orow}
/-- A slice of the reader has grown and is stored into its cell; rows without a block may come up. -/
theorem BW.grow (h : BW g B w0 r K T b p w) (e : (btR r).Perm (rowE E n C v l :: post)) (e' : (btR r').Perm (rowE E n C v' l' :: (ex ++ post))) (hx : ∀ o ∈ ex, o.v.ownBlock = none ∧ ∀ w, o.own w B)
    (ho : OwnE w1 B E n C v' l') (hg : w.grownBy w1 v.ownBlock) (hn : v'.ownBlock = v.ownBlock ∨ v'.ownBlock = none ∨ ∃ k, v'.ownBlock = some k ∧ w.heap.size ≤ k) (ec : r.C.setIfInBounds j v' = r'.C) : BW g B w0 r' K T b p (w1.setCell ⟨g, j, none⟩ v') := by
  have hm : ∀ k, v.ownBlock = some k → k ∈ blks (btR r) := fun k hk => (blks_perm e).2 (List.mem_filterMap.2 ⟨rowE E n C v l, by simp, hk⟩)
  have hgo : v.ownBlock ≠ some g := fun e1 => h.gr (hm _ e1)
  have hbo : v.ownBlock ≠ some b := fun e1 => h.br (hm _ e1)
  have hgs := grown_set w1 g j v'
  have hlt := h.lt
  have hgo' : v'.ownBlock ≠ some g := fun e1 => by
    rcases hn with q | q | ⟨k, q, hk⟩
    · exact hgo (q.symm.trans e1)
    · rw [q] at e1; cases e1
    · rw [q] at e1; injection e1 with e1; omega
  have hb2 := h.st.other hg (fun k hk => ⟨(h.blt (hm k hk)).2, fun e1 => hbo (by rw [hk, e1])⟩)
  have hex : ex.filterMap (·.v.ownBlock) = [] := List.filterMap_eq_nil_iff.2 (fun o ho => (hx o ho).1)
  have hone : ∀ k, k ∈ blks (rowE E n C v' l' :: ex) → v'.ownBlock = some k := by
    intro k hk
    obtain ⟨o, ho, hk⟩ := List.mem_filterMap.1 hk
    rcases List.mem_cons.1 ho with rfl | ho
    · exact hk
    · rw [(hx o ho).1] at hk; cases hk
  refine h.turn (X := [rowE E n C v l]) (X' := rowE E n C v' l' :: ex) (post := post) e (by simpa using e') ((Fr.of_grown hg (fun k hk => ?_)).trans (Fr.ofOne hgs (by simp))) ?_ (hb2.other hgs (fun k hk => by cases hk; exact ⟨h.gB, h.gb⟩)) ⟨fun o ho' => ?_, ?_⟩ (fun k hk => ?_)
  · exact List.mem_cons_of_mem _ (List.mem_cons_of_mem _ (List.mem_filterMap.2 ⟨rowE E n C v l, by simp, hk⟩))
  · rw [← ec]; exact Lib.heap_setCell_same (i := j) (h.has.grown hg (fun e1 => hgo e1.symm)) v'
  · rcases List.mem_cons.1 ho' with rfl | ho'
    · exact OwnE.frame ho hgs (fun k (hk : v'.ownBlock = some k) e1 => hgo' (hk.trans e1.symm))
    · exact (hx o ho').2 _
  · rw [List.filterMap_cons]; split <;> simp [hex]
  · have hk := hone k hk
    rcases hn with q | q | ⟨k', q, hk2⟩
    · exact .inl (List.mem_filterMap.2 ⟨rowE E n C v l, by simp, q.symm.trans hk⟩)
    · rw [q] at hk; cases hk
    · rw [q] at hk; injection hk with hk; subst hk; exact .inr hk2
/-- A slice of the last list of lists has grown and is stored into that list. -/
theorem BW.inner (h : BW g B w0 r K T b p w) (e : (btR r).Perm (rowE E' 2 D V (l0 ++ [m]) :: rowE E n C v l :: post)) (e' : (btR r').Perm (rowE E' 2 D V (l0 ++ [m']) :: rowE E n C v' l' :: post))
    (hV : V = .slice (some ⟨gg, 0, none⟩) (l0.length + 1) cap) (hD : ∀ x, (D x).toList.length = 2) (hm : (D m).setIfInBounds 1 v' = D m') (hc : r'.C = r.C)
    (ho : OwnE w1 B E n C v' l') (hg : w.grownBy w1 v.ownBlock) (hn : v'.ownBlock = v.ownBlock ∨ v'.ownBlock = none ∨ ∃ k, v'.ownBlock = some k ∧ w.heap.size ≤ k) : BW g B w0 r' K T b p (w1.setCell ⟨gg, l0.length * 2 + 1, none⟩ v') := by
  have hall := h.own.perm e.symm
  have ho0 : OwnE w B E' 2 D V (l0 ++ [m]) := hall.1 (rowE E' 2 D V (l0 ++ [m])) (by simp)
  obtain ⟨g', cap', cur, e1, hgB, hp, hs⟩ := ho0.part (by decide) hD (k := l0.length) (by simp)
  have hVb : V.ownBlock = some gg := by rw [hV]; rfl
  rw [hV] at e1
  injection e1 with e1 _ e3
  injection e1 with e1
  injection e1 with e1 _ _
  subst e1
  have hx : (l0 ++ [m])[l0.length]'(by simp) = m := by simp
  rw [hx] at hp
  have hd := hall.2
  rw [List.filterMap_cons_some (f := fun x : Orow => x.v.ownBlock) (b := gg) (show (rowE E' 2 D V (l0 ++ [m])).v.ownBlock = some gg from hVb)] at hd
  have hvg : v.ownBlock ≠ some gg := fun ev => by
    rw [List.filterMap_cons_some (f := fun x : Orow => x.v.ownBlock) (b := gg) (show (rowE E n C v l).v.ownBlock = some gg from ev)] at hd
    simp at hd
  have hlt := hp.lt
  have hvg' : v'.ownBlock ≠ some gg := fun e1 => by
    rcases hn with q | q | ⟨k, q, hk⟩
    · exact hvg (q.symm.trans e1)
    · rw [q] at e1; cases e1
    · rw [q] at e1; injection e1 with e1; omega
  have hm1 : gg ∈ blks (btR r) := (blks_perm e).2 (List.mem_filterMap.2 ⟨rowE E' 2 D V (l0 ++ [m]), by simp, hVb⟩)
  have hm2 : ∀ k, v.ownBlock = some k → k ∈ blks (btR r) := fun k hk => (blks_perm e).2 (List.mem_filterMap.2 ⟨rowE E n C v l, by simp, hk⟩)
  have hgs := grown_set w1 gg (l0.length * 2 + 1) v'
  have hpz := (hp.frame hg hvg).put (j := 1) (by have := hD m; rw [← Array.length_toList]; omega) v' hm
  have hset := hs _ m' hpz.1
  rw [setAtL_snoc] at hset
  have hggne : gg ≠ g := fun e1 => h.gr (e1 ▸ hm1)
  have hbne : gg ≠ b := fun e1 => h.br (e1 ▸ hm1)
  have hb2 := (h.st.other hg (fun k hk => ⟨(h.blt (hm2 k hk)).2, fun e1 => h.br (e1 ▸ hm2 k hk)⟩)).other hgs (fun k hk => by cases hk; exact ⟨hgB, hbne⟩)
  refine h.turn (X := [rowE E' 2 D V (l0 ++ [m]), rowE E n C v l]) (X' := [rowE E' 2 D V (l0 ++ [m']), rowE E n C v' l']) (post := post) e e' ((Fr.of_grown hg (fun k hk => ?_)).trans (Fr.ofOne hgs ?_)) ?_ hb2 ⟨fun o ho' => ?_, ?_⟩ (fun k hk => ?_)
  · exact List.mem_cons_of_mem _ (List.mem_cons_of_mem _ (List.mem_filterMap.2 ⟨rowE E n C v l, by simp, hk⟩))
  · exact List.mem_cons_of_mem _ (List.mem_cons_of_mem _ (List.mem_filterMap.2 ⟨rowE E' 2 D V (l0 ++ [m]), by simp, hVb⟩))
  · rw [hc]
    exact (h.has.grown hg (fun e1 => h.gr (hm2 g e1.symm))).grown hgs (fun e1 => hggne (by injection e1 with e1; exact e1.symm))
  · simp only [List.mem_cons, List.not_mem_nil, or_false] at ho'
    rcases ho' with rfl | rfl
    · exact hset
    · exact OwnE.frame ho hgs (fun k (hk : v'.ownBlock = some k) e1 => hvg' (hk.trans e1.symm))
  · rw [List.filterMap_cons_some (f := fun x : Orow => x.v.ownBlock) (b := gg) (show (rowE E' 2 D V (l0 ++ [m'])).v.ownBlock = some gg from hVb), List.filterMap_cons]
    split
    · simp
    · rename_i c hc'
      refine List.nodup_cons.2 ⟨fun hm => ?_, by simp⟩
      rw [List.filterMap_nil, List.mem_singleton] at hm
      exact hvg' (by rw [hm]; exact hc')
  · obtain ⟨o, ho', hk'⟩ := List.mem_filterMap.1 hk
    simp only [List.mem_cons, List.not_mem_nil, or_false] at ho'
    rcases ho' with rfl | rfl
    · exact .inl (List.mem_filterMap.2 ⟨rowE E' 2 D V (l0 ++ [m]), by simp, hk'⟩)
    · rcases hn with q | q | ⟨k', q, hk2⟩
      · exact .inl (List.mem_filterMap.2 ⟨rowE E n C v l, by simp, q.symm.trans hk'⟩)
      · rw [show (rowE E n C v' l').v.ownBlock = v'.ownBlock from rfl, q] at hk'; cases hk'
      · rw [show (rowE E n C v' l').v.ownBlock = v'.ownBlock from rfl, q] at hk'; injection hk' with hk'; subst hk'; exact .inr hk2
/-- A form that turns one struct, as a form of the reader. -/
theorem leaf_form {f : Fm} {fv : Value} {F : Rt → Ps → FmR} {mk : (α → α) → Rt → Rt} {mkR : (α → α) → Rt} {x : α} {o : Nat} {cur : Array Value} {K0 : Kept} {e : Ending} {w' : World} (hF : ∀ r p, fmS f T.2 r p = F r p)
    (hclose : ∀ (φ : α → α) (p' : Ps) (w' : World), Ck E gg o cur T b B K0 w (C (φ x)) p' w' → BW g B w0 (mkR φ) K T b p' w') (hpl : ∀ φ, mk φ r.plain = (mkR φ).plain) (hst : ∀ φ, f ≠ .top → Stay r (mkR φ))
    (hfm : ∀ φ K0, FmV f g r K0 fv → FmV f g (mkR φ) K0 fv) (hp : FPost F mk C x E gg o cur T b B K0 w p e w') : FormP f fv g B w0 r K T b p w e w' := by
  obtain ⟨key, φ, p', hq, rfl, hc⟩ := hp
  exact ⟨key, none, mkR φ, p', [], .nilFunc, by rw [hF, hq, hpl], rfl, hclose φ p' w' hc, hst φ, hfm φ, rfl, fun _ h => by cases h⟩
end
/-- A row of lists tells only what its elements' cells are. -/
theorem rowE_last {α : Type} {T : TypeId} {n : Nat} {C : α → Array Value} {v : Value} {l : List α} {x y : α} (h : C x = C y) : rowE T n C v (l ++ [x]) = rowE T n C v (l ++ [y]) := by
  unfold rowE
  simp [h]
/-- What holds of a form's value, wherever the reader is. -/
def FormC (f : Fm) : Prop := ∀ (g B b k : Nat) (w0 w : World) (r : Rt) (K : Kept) (kb : Bool) (p : Ps) (fv : Value), BW g B w0 r K (147, kb) b p w → FmV f g r K fv → EnvA B w0 → p.short → RtI k r.plain → k ≤ 1000000 →
  ∃ F pre cap, fv = .func (.func F) pre cap ∧ EG F ∧ Calls Tryz.prog F (pre ++ #[.pointer (some ⟨b, 0, none⟩)] ++ cap) w (FormP f fv g B w0 r K (147, kb) b p w)
theorem btR_maps {r : Rt} {m0 : List RMap} {m : RMap} (e : r.maps = m0 ++ [m]) : btR r = ((btR r).take 14 ++ (r.lists.map rP ++ m0.map rM)) ++ rM m :: r.acls.map rA := by
  have h : btR r = (btR r).take 14 ++ (r.lists.map rP ++ (r.maps.map rM ++ r.acls.map rA)) := rfl
  conv => lhs; rw [h, e]
  simp
theorem btR_acls {r : Rt} {m0 : List AList} {m : AList} (e : r.acls = m0 ++ [m]) : btR r = ((btR r).take 14 ++ (r.lists.map rP ++ (r.maps.map rM ++ m0.map rA))) ++ rA m :: [] := by
  have h : btR r = (btR r).take 14 ++ (r.lists.map rP ++ (r.maps.map rM ++ r.acls.map rA)) := rfl
  conv => lhs; rw [h, e]
  simp
theorem iface_form : FormC .iface := by
  intro g B b k w0 w r K kb p fv h hf he hs hr hk
  obtain ⟨gg, cap, l0, x, q, e1, e2, rfl, e4⟩ := hf
  obtain ⟨cur, hc, hclose⟩ := h.last (E := 67) (n := 12) (C := If.C) (v := r.ifsV) (l0 := l0) (x := x) (gg := gg) (cap := cap) (K0 := [(q, .cells #[.pointer (some ⟨gg, l0.length * 12, none⟩)] 173 (0, 0))]) (pre := (btR r).take 0) (post := (btR r).drop 1) (by rw [← e1]; rfl) e2 (by decide) (fun _ => rfl) (fun k hk => by obtain rfl := List.mem_singleton.1 hk; exact e4)
  refine ⟨170, #[], #[.pointer (some ⟨q, 0, none⟩)], rfl, enters_of Tryz.func170 (by kernel_rfl) rfl, ?_⟩
  refine (iface1_any q gg (l0.length * 12) b B cur x kb p w hc (h.toBR.env he) hs).mono ?_
  intro e w' hp
  refine leaf_form (mkR := fun φ => { r with ifs := l0 ++ [φ x] }) (fun _ _ => rfl) (fun φ p' w' hc' => hclose (φ x) p' w' _ hc' rfl rfl) (fun φ => ?_) (fun φ _ => ⟨rfl, rfl, rfl, rfl, rfl, rfl⟩) (fun φ K0 hq => ElV.stay hq rfl (by rw [e1]; simp) (fun _ h => h)) hp
  show { r.plain with ifs := lastF φ r.ifs } = _
  rw [e1, lastF_snoc]
  rfl
theorem static_form : FormC .static := by
  intro g B b k w0 w r K kb p fv h hf he hs hr hk
  obtain ⟨gg, cap, l0, x, q, e1, e2, rfl, e4⟩ := hf
  obtain ⟨cur, hc, hclose⟩ := h.last (E := 73) (n := 7) (C := Sr.C) (v := r.statV) (l0 := l0) (x := x) (gg := gg) (cap := cap) (K0 := [(q, .cells #[.pointer (some ⟨gg, l0.length * 7, none⟩)] 189 (0, 0))]) (pre := (btR r).take 2) (post := (btR r).drop 3) (by rw [← e1]; rfl) e2 (by decide) (fun _ => rfl) (fun k hk => by obtain rfl := List.mem_singleton.1 hk; exact e4)
  refine ⟨180, #[], #[.pointer (some ⟨q, 0, none⟩)], rfl, enters_of Tryz.func180 (by kernel_rfl) rfl, ?_⟩
  refine (static1_any q gg (l0.length * 7) b B cur x kb p w hc (h.toBR.env he) hs).mono ?_
  intro e w' hp
  refine leaf_form (mkR := fun φ => { r with stat := l0 ++ [φ x] }) (fun _ _ => rfl) (fun φ p' w' hc' => hclose (φ x) p' w' _ hc' rfl rfl) (fun φ => ?_) (fun φ _ => ⟨rfl, rfl, rfl, rfl, rfl, rfl⟩) (fun φ K0 hq => ElV.stay hq rfl (by rw [e1]; simp) (fun _ h => h)) hp
  show { r.plain with stat := lastF φ r.stat } = _
  rw [e1, lastF_snoc]
  rfl
theorem neighbor_form : FormC .neighbor := by
  intro g B b k w0 w r K kb p fv h hf he hs hr hk
  obtain ⟨gg, cap, l0, x, q, e1, e2, rfl, e4⟩ := hf
  obtain ⟨cur, hc, hclose⟩ := h.last (E := 124) (n := 4) (C := Nb.C) (v := r.nbV) (l0 := l0) (x := x) (gg := gg) (cap := cap) (K0 := [(q, .cells #[.pointer (some ⟨gg, l0.length * 4, none⟩)] 219 (0, 0))]) (pre := (btR r).take 6) (post := (btR r).drop 7) (by rw [← e1]; rfl) e2 (by decide) (fun _ => rfl) (fun k hk => by obtain rfl := List.mem_singleton.1 hk; exact e4)
  refine ⟨186, #[], #[.pointer (some ⟨q, 0, none⟩)], rfl, enters_of Tryz.func186 (by kernel_rfl) rfl, ?_⟩
  refine (neighbor1_any q gg (l0.length * 4) b B cur x kb p w hc (h.toBR.env he) hs).mono ?_
  intro e w' hp
  refine leaf_form (mkR := fun φ => { r with nb := l0 ++ [φ x] }) (fun _ _ => rfl) (fun φ p' w' hc' => hclose (φ x) p' w' _ hc' rfl rfl) (fun φ => ?_) (fun φ _ => ⟨rfl, rfl, rfl, rfl, rfl, rfl⟩) (fun φ K0 hq => ElV.stay hq rfl (by rw [e1]; simp) (fun _ h => h)) hp
  show { r.plain with nb := lastF φ r.nb } = _
  rw [e1, lastF_snoc]
  rfl
theorem rule_form : FormC .rule := by
  intro g B b k w0 w r K kb p fv h hf he hs hr hk
  obtain ⟨m0, m, em, gg, cap, l0, x, q, e1, e2, rfl, e4⟩ := hf
  have ep := btR_acls em
  have hrow : rA m = rowE 119 10 Ru.C m.v (l0 ++ [x]) := by rw [← e1]; rfl
  rw [hrow] at ep
  obtain ⟨cur, hc, hclose⟩ := h.last (E := 119) (n := 10) (C := Ru.C) (v := m.v) (l0 := l0) (x := x) (gg := gg) (cap := cap) (K0 := [(q, .cells #[.pointer (some ⟨gg, l0.length * 10, none⟩)] 180 (0, 0))]) ep e2 (by decide) (fun _ => rfl) (fun k hk => by obtain rfl := List.mem_singleton.1 hk; exact e4)
  refine ⟨175, #[], #[.pointer (some ⟨q, 0, none⟩)], rfl, enters_of Tryz.func175 (by kernel_rfl) rfl, ?_⟩
  refine (rule1_any q gg (l0.length * 10) b B cur x kb p w hc (h.toBR.env he) hs).mono ?_
  intro e w' hp
  have hbt : ∀ φ : Ru → Ru, btR { r with acls := m0 ++ [⟨m.name, m.v, l0 ++ [φ x]⟩] } = ((btR r).take 14 ++ (r.lists.map rP ++ (r.maps.map rM ++ m0.map rA))) ++ rowE 119 10 Ru.C m.v (l0 ++ [φ x]) :: [] := by
    intro φ
    have q1 := btR_acls (r := { r with acls := m0 ++ [⟨m.name, m.v, l0 ++ [φ x]⟩] }) (m0 := m0) (m := ⟨m.name, m.v, l0 ++ [φ x]⟩) rfl
    rw [q1]
    have q2 : (btR { r with acls := m0 ++ [⟨m.name, m.v, l0 ++ [φ x]⟩] }).take 14 = (btR r).take 14 := by
      have q3 : rowE 113 2 AList.C r.aclsV (m0 ++ [⟨m.name, m.v, l0 ++ [φ x]⟩]) = rowE 113 2 AList.C r.aclsV r.acls := by rw [em]; exact rowE_last rfl
      simp only [btR, List.take_succ_cons, List.take_zero, q3]
    rw [q2]
    rfl
  refine leaf_form (mkR := fun φ => { r with acls := m0 ++ [⟨m.name, m.v, l0 ++ [φ x]⟩] }) (fun _ _ => rfl) (fun φ p' w' hc' => hclose (φ x) p' w' _ hc' rfl (hbt φ)) (fun φ => ?_) (fun φ _ => ⟨rfl, rfl, rfl, rfl, rfl, (by rw [em]; simp)⟩) (fun φ K0 hq => ?_) hp
  · show { r.plain with acls := lastF (fun y => { y with rules := lastF φ y.rules }) (r.acls.map fun x : AList => ⟨x.name, .slice none 0 0, x.rules⟩) } = { r.plain with acls := (m0 ++ [(⟨m.name, m.v, l0 ++ [φ x]⟩ : AList)]).map fun x : AList => ⟨x.name, .slice none 0 0, x.rules⟩ }
    simp only [em, e1, List.map_append, List.map_cons, List.map_nil, lastF_snoc]
  · obtain ⟨m1, m2, em', hq⟩ := hq
    rw [em] at em'
    obtain ⟨rfl, e5⟩ := List.append_inj' em' rfl
    injection e5 with e5 _
    subst e5
    exact ⟨m0, _, rfl, ElV.stay hq rfl (by rw [e1]; simp) (fun _ h => h)⟩
end Go.Proofs.YtmddfkpkddemnaaGreatDoor
