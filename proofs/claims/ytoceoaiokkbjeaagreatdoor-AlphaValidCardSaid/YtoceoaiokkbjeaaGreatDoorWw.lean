/- The walks of linkStateCommand and distanceCommand. Conditions: the reader's lists are short (AlOk). -/
import Derived.Test.YtoceoaiokkbjeaaGreatDoorWv
import Derived.Deep.DeepCutAuto
set_option maxRecDepth 8000
set_option maxHeartbeats 4000000
namespace Go.Proofs.YtoceoaiokkbjeaaGreatDoor
open Lib (hid)
open Go.RowKit
section
variable {E : TypeId} {g b B : Nat} {w0 : World} {cs : Array Value} {pre post : List Orow}
theorem zKn (v : Value) (l : List Nb) (no : Bool) (p : Ps) (w : World) (h : RS E 131 g b B w0 cs (pre ++ rowE 115 4 Nb.C v l :: post) p w) (he : EnvA B w0) (hs : p.short) (hl : l.length ≤ 1000000000) :
  Calls Tryz.prog 153 #[v, .bool no, .pointer (some ⟨b, 0, none⟩)] w (zCz E 131 g b B w0 cs pre post 115 4 Nb.C (nbCmd l no p).1 (nbCmd l no p).2) := by
 have H := hid h
 have HE := hid he
 have HS := hid hs
 have HL := hid hl
 clear h he hs hl
 cases no with
 | true =>
  have EE : Hid (nbCmd l true p = (dropL (fun y => y.addr == adV p) l, adS p)) := hid rfl
  go_enter Tryz.func153, Tryz.ntmps153
  go_wp2_with fail
  refine (zBr b B p _ H.out.st (H.out.env HE.out) HS.out).mono ?_
  rintro e w1 ⟨rfl, h1, k1⟩
  have H1 := hid (H.out.word h1 k1)
  clear h1 k1
  go_wp2_with (refine zAe rfl _ _ _ rfl rfl (ds := Nb.C ⟨adV p, 0, [], []⟩) rfl (HasC.new _ _ _) rfl Tryz.sizeNb (Nb.one ⟨adV p, 0, [], []⟩) ?_; intro w2 hx hg; have H2 := hid (RL.start H1.out hx hg); clear hx hg)
  refine (delNb l ⟨adV p, 0, [], []⟩ H2.out).mono ?_
  rintro e wz ⟨v5, rfl, h5⟩
  go_wp2_with fail
  go_ret
  rw [EE.out]
  exact ⟨v5, rfl, h5⟩
 | false =>
  cases ci : isW [105, 110] (noS 1 65535 (mustS (isW [97, 115] (adS p)) (optS [97, 115] (adS p)))) with
  | true =>
   cases co : isW [111, 117, 116] (nmS (optS [105, 110] (noS 1 65535 (mustS (isW [97, 115] (adS p)) (optS [97, 115] (adS p)))))) with
   | true =>
    have EE : Hid (nbCmd l false p = (replL (fun y => y.addr == adV p) ⟨adV p, noV 1 65535 (mustS (isW [97, 115] (adS p)) (optS [97, 115] (adS p))), nmV (optS [105, 110] (noS 1 65535 (mustS (isW [97, 115] (adS p)) (optS [97, 115] (adS p))))), nmV (optS [111, 117, 116] (nmS (optS [105, 110] (noS 1 65535 (mustS (isW [97, 115] (adS p)) (optS [97, 115] (adS p)))))))⟩ l, (nmS (optS [111, 117, 116] (nmS (optS [105, 110] (noS 1 65535 (mustS (isW [97, 115] (adS p)) (optS [97, 115] (adS p)))))))))) := hid (by unfold nbCmd; dsimp only; rw [if_neg (by decide)]; simp only [ci, co, if_true])
    have CI := hid ci
    have CO := hid co
    clear ci co
    go_enter Tryz.func153, Tryz.ntmps153
    go_wp2_with fail
    refine (zBr b B p _ H.out.st (H.out.env HE.out) HS.out).mono ?_
    rintro e w1 ⟨rfl, h1, k1⟩
    have H1 := hid (H.out.word h1 k1)
    clear h1 k1
    go_wp2_with (refine zAe rfl _ _ _ rfl rfl (ds := Nb.C ⟨adV p, 0, [], []⟩) rfl (HasC.new _ _ _) rfl Tryz.sizeNb (Nb.one ⟨adV p, 0, [], []⟩) ?_; intro w2 hx hg; have H2 := hid (RL.start H1.out hx hg); clear hx hg)
    refine (zAl b B (adS p) [97, 115] _ H2.out.base.st).mono ?_
    rintro e w3 ⟨rfl, h3, k3⟩
    have H3 := hid (H2.out.word h3 k3)
    clear h3 k3
    go_wp2_with fail
    refine (zCy b B (optS [97, 115] (adS p)) _ _ H3.out.base.st).mono ?_
    rintro e w4 ⟨rfl, h4, k4⟩
    have H4 := hid (H3.out.word h4 k4)
    clear h4 k4
    go_wp2_with fail
    refine (zAo b B (mustS _ (optS [97, 115] (adS p))) 1 65535 _ H4.out.base.st).mono ?_
    rintro e w5 ⟨rfl, h5, k5⟩
    have H5 := hid (H4.out.word h5 k5)
    clear h5 k5
    obtain ⟨y1, c1⟩ := H5.out.lsome (j := 1) (show 1 < 4 from by decide)
    have fz := H5.out.lfrz
    go_wp2_with fail
    refine (zAl b B (noS 1 65535 (mustS _ (optS [97, 115] (adS p)))) [105, 110] _ (H5.out.put 1 _ rfl).base.st).mono ?_
    rintro e w6 ⟨rfl, h6, k6⟩
    have H6 := hid ((H5.out.put 1 _ rfl).word h6 k6)
    clear h6 k6
    rw [CI.out]
    go_wp2_with fail
    refine (zBb b B (optS [105, 110] (noS 1 65535 (mustS _ (optS [97, 115] (adS p))))) _ H6.out.base.st).mono ?_
    rintro e w7 ⟨rfl, h7, k7⟩
    have H7 := hid (H6.out.word h7 k7)
    clear h7 k7
    unfold strV
    obtain ⟨y2, c2⟩ := H7.out.lsome (j := 2) (show 2 < 4 from by decide)
    have fz := H7.out.lfrz
    go_wp2_with fail
    refine (zAl b B (nmS (optS [105, 110] (noS 1 65535 (mustS _ (optS [97, 115] (adS p)))))) [111, 117, 116] _ (H7.out.put 2 _ rfl).base.st).mono ?_
    rintro e w8 ⟨rfl, h8, k8⟩
    have H8 := hid ((H7.out.put 2 _ rfl).word h8 k8)
    clear h8 k8
    rw [CO.out]
    go_wp2_with fail
    refine (zBb b B (optS [111, 117, 116] (nmS (optS [105, 110] (noS 1 65535 (mustS _ (optS [97, 115] (adS p))))))) _ H8.out.base.st).mono ?_
    rintro e w9 ⟨rfl, h9, k9⟩
    have H9 := hid (H8.out.word h9 k9)
    clear h9 k9
    unfold strV
    obtain ⟨y3, c3⟩ := H9.out.lsome (j := 3) (show 3 < 4 from by decide)
    have fz := H9.out.lfrz
    go_wp2_with (refine zAa rfl _ _ rfl rfl (HasC.range (cs := Nb.C ⟨adV p, noV 1 65535 (mustS (isW [97, 115] (adS p)) (optS [97, 115] (adS p))), nmV (optS [105, 110] (noS 1 65535 (mustS (isW [97, 115] (adS p)) (optS [97, 115] (adS p))))), nmV (optS [111, 117, 116] (nmS (optS [105, 110] (noS 1 65535 (mustS (isW [97, 115] (adS p)) (optS [97, 115] (adS p)))))))⟩) (H9.out.put 3 _ rfl).loc) Tryz.rowNb Tryz.sizeNb ?_)
    refine (repNb l ⟨adV p, noV 1 65535 (mustS (isW [97, 115] (adS p)) (optS [97, 115] (adS p))), nmV (optS [105, 110] (noS 1 65535 (mustS (isW [97, 115] (adS p)) (optS [97, 115] (adS p))))), nmV (optS [111, 117, 116] (nmS (optS [105, 110] (noS 1 65535 (mustS (isW [97, 115] (adS p)) (optS [97, 115] (adS p)))))))⟩ (H9.out.put 3 _ rfl) HL.out).mono ?_
    rintro e wz ⟨v5, rfl, h5⟩
    go_wp2_with fail
    go_ret
    rw [EE.out]
    exact ⟨v5, rfl, h5⟩
   | false =>
    have EE : Hid (nbCmd l false p = (replL (fun y => y.addr == adV p) ⟨adV p, noV 1 65535 (mustS (isW [97, 115] (adS p)) (optS [97, 115] (adS p))), nmV (optS [105, 110] (noS 1 65535 (mustS (isW [97, 115] (adS p)) (optS [97, 115] (adS p))))), []⟩ l, (nmS (optS [105, 110] (noS 1 65535 (mustS (isW [97, 115] (adS p)) (optS [97, 115] (adS p)))))))) := hid (by unfold nbCmd; dsimp only; rw [if_neg (by decide)]; simp only [ci, co, if_true, Bool.false_eq_true, if_false])
    have CI := hid ci
    have CO := hid co
    clear ci co
    go_enter Tryz.func153, Tryz.ntmps153
    go_wp2_with fail
    refine (zBr b B p _ H.out.st (H.out.env HE.out) HS.out).mono ?_
    rintro e w1 ⟨rfl, h1, k1⟩
    have H1 := hid (H.out.word h1 k1)
    clear h1 k1
    go_wp2_with (refine zAe rfl _ _ _ rfl rfl (ds := Nb.C ⟨adV p, 0, [], []⟩) rfl (HasC.new _ _ _) rfl Tryz.sizeNb (Nb.one ⟨adV p, 0, [], []⟩) ?_; intro w2 hx hg; have H2 := hid (RL.start H1.out hx hg); clear hx hg)
    refine (zAl b B (adS p) [97, 115] _ H2.out.base.st).mono ?_
    rintro e w3 ⟨rfl, h3, k3⟩
    have H3 := hid (H2.out.word h3 k3)
    clear h3 k3
    go_wp2_with fail
    refine (zCy b B (optS [97, 115] (adS p)) _ _ H3.out.base.st).mono ?_
    rintro e w4 ⟨rfl, h4, k4⟩
    have H4 := hid (H3.out.word h4 k4)
    clear h4 k4
    go_wp2_with fail
    refine (zAo b B (mustS _ (optS [97, 115] (adS p))) 1 65535 _ H4.out.base.st).mono ?_
    rintro e w5 ⟨rfl, h5, k5⟩
    have H5 := hid (H4.out.word h5 k5)
    clear h5 k5
    obtain ⟨y1, c1⟩ := H5.out.lsome (j := 1) (show 1 < 4 from by decide)
    have fz := H5.out.lfrz
    go_wp2_with fail
    refine (zAl b B (noS 1 65535 (mustS _ (optS [97, 115] (adS p)))) [105, 110] _ (H5.out.put 1 _ rfl).base.st).mono ?_
    rintro e w6 ⟨rfl, h6, k6⟩
    have H6 := hid ((H5.out.put 1 _ rfl).word h6 k6)
    clear h6 k6
    rw [CI.out]
    go_wp2_with fail
    refine (zBb b B (optS [105, 110] (noS 1 65535 (mustS _ (optS [97, 115] (adS p))))) _ H6.out.base.st).mono ?_
    rintro e w7 ⟨rfl, h7, k7⟩
    have H7 := hid (H6.out.word h7 k7)
    clear h7 k7
    unfold strV
    obtain ⟨y2, c2⟩ := H7.out.lsome (j := 2) (show 2 < 4 from by decide)
    have fz := H7.out.lfrz
    go_wp2_with fail
    refine (zAl b B (nmS (optS [105, 110] (noS 1 65535 (mustS _ (optS [97, 115] (adS p)))))) [111, 117, 116] _ (H7.out.put 2 _ rfl).base.st).mono ?_
    rintro e w8 ⟨rfl, h8, k8⟩
    rw [zBx CO.out] at h8
    have H8 := hid ((H7.out.put 2 _ rfl).word h8 k8)
    clear h8 k8
    rw [CO.out]
    go_wp2_with (refine zAa rfl _ _ rfl rfl (HasC.range (cs := Nb.C ⟨adV p, noV 1 65535 (mustS (isW [97, 115] (adS p)) (optS [97, 115] (adS p))), nmV (optS [105, 110] (noS 1 65535 (mustS (isW [97, 115] (adS p)) (optS [97, 115] (adS p))))), []⟩) H8.out.loc) Tryz.rowNb Tryz.sizeNb ?_)
    refine (repNb l ⟨adV p, noV 1 65535 (mustS (isW [97, 115] (adS p)) (optS [97, 115] (adS p))), nmV (optS [105, 110] (noS 1 65535 (mustS (isW [97, 115] (adS p)) (optS [97, 115] (adS p))))), []⟩ H8.out HL.out).mono ?_
    rintro e wz ⟨v5, rfl, h5⟩
    go_wp2_with fail
    go_ret
    rw [EE.out]
    exact ⟨v5, rfl, h5⟩
  | false =>
   cases co : isW [111, 117, 116] (noS 1 65535 (mustS (isW [97, 115] (adS p)) (optS [97, 115] (adS p)))) with
   | true =>
    have EE : Hid (nbCmd l false p = (replL (fun y => y.addr == adV p) ⟨adV p, noV 1 65535 (mustS (isW [97, 115] (adS p)) (optS [97, 115] (adS p))), [], nmV (optS [111, 117, 116] (noS 1 65535 (mustS (isW [97, 115] (adS p)) (optS [97, 115] (adS p)))))⟩ l, (nmS (optS [111, 117, 116] (noS 1 65535 (mustS (isW [97, 115] (adS p)) (optS [97, 115] (adS p)))))))) := hid (by unfold nbCmd; dsimp only; rw [if_neg (by decide)]; simp only [ci, co, if_true, Bool.false_eq_true, if_false])
    have CI := hid ci
    have CO := hid co
    clear ci co
    go_enter Tryz.func153, Tryz.ntmps153
    go_wp2_with fail
    refine (zBr b B p _ H.out.st (H.out.env HE.out) HS.out).mono ?_
    rintro e w1 ⟨rfl, h1, k1⟩
    have H1 := hid (H.out.word h1 k1)
    clear h1 k1
    go_wp2_with (refine zAe rfl _ _ _ rfl rfl (ds := Nb.C ⟨adV p, 0, [], []⟩) rfl (HasC.new _ _ _) rfl Tryz.sizeNb (Nb.one ⟨adV p, 0, [], []⟩) ?_; intro w2 hx hg; have H2 := hid (RL.start H1.out hx hg); clear hx hg)
    refine (zAl b B (adS p) [97, 115] _ H2.out.base.st).mono ?_
    rintro e w3 ⟨rfl, h3, k3⟩
    have H3 := hid (H2.out.word h3 k3)
    clear h3 k3
    go_wp2_with fail
    refine (zCy b B (optS [97, 115] (adS p)) _ _ H3.out.base.st).mono ?_
    rintro e w4 ⟨rfl, h4, k4⟩
    have H4 := hid (H3.out.word h4 k4)
    clear h4 k4
    go_wp2_with fail
    refine (zAo b B (mustS _ (optS [97, 115] (adS p))) 1 65535 _ H4.out.base.st).mono ?_
    rintro e w5 ⟨rfl, h5, k5⟩
    have H5 := hid (H4.out.word h5 k5)
    clear h5 k5
    obtain ⟨y1, c1⟩ := H5.out.lsome (j := 1) (show 1 < 4 from by decide)
    have fz := H5.out.lfrz
    go_wp2_with fail
    refine (zAl b B (noS 1 65535 (mustS _ (optS [97, 115] (adS p)))) [105, 110] _ (H5.out.put 1 _ rfl).base.st).mono ?_
    rintro e w6 ⟨rfl, h6, k6⟩
    rw [zBx CI.out] at h6
    have H6 := hid ((H5.out.put 1 _ rfl).word h6 k6)
    clear h6 k6
    rw [CI.out]
    go_wp2_with fail
    refine (zAl b B (noS 1 65535 (mustS _ (optS [97, 115] (adS p)))) [111, 117, 116] _ H6.out.base.st).mono ?_
    rintro e w7 ⟨rfl, h7, k7⟩
    have H7 := hid (H6.out.word h7 k7)
    clear h7 k7
    rw [CO.out]
    go_wp2_with fail
    refine (zBb b B (optS [111, 117, 116] (noS 1 65535 (mustS _ (optS [97, 115] (adS p))))) _ H7.out.base.st).mono ?_
    rintro e w8 ⟨rfl, h8, k8⟩
    have H8 := hid (H7.out.word h8 k8)
    clear h8 k8
    unfold strV
    obtain ⟨y3, c3⟩ := H8.out.lsome (j := 3) (show 3 < 4 from by decide)
    have fz := H8.out.lfrz
    go_wp2_with (refine zAa rfl _ _ rfl rfl (HasC.range (cs := Nb.C ⟨adV p, noV 1 65535 (mustS (isW [97, 115] (adS p)) (optS [97, 115] (adS p))), [], nmV (optS [111, 117, 116] (noS 1 65535 (mustS (isW [97, 115] (adS p)) (optS [97, 115] (adS p)))))⟩) (H8.out.put 3 _ rfl).loc) Tryz.rowNb Tryz.sizeNb ?_)
    refine (repNb l ⟨adV p, noV 1 65535 (mustS (isW [97, 115] (adS p)) (optS [97, 115] (adS p))), [], nmV (optS [111, 117, 116] (noS 1 65535 (mustS (isW [97, 115] (adS p)) (optS [97, 115] (adS p)))))⟩ (H8.out.put 3 _ rfl) HL.out).mono ?_
    rintro e wz ⟨v5, rfl, h5⟩
    go_wp2_with fail
    go_ret
    rw [EE.out]
    exact ⟨v5, rfl, h5⟩
   | false =>
    have EE : Hid (nbCmd l false p = (replL (fun y => y.addr == adV p) ⟨adV p, noV 1 65535 (mustS (isW [97, 115] (adS p)) (optS [97, 115] (adS p))), [], []⟩ l, (noS 1 65535 (mustS (isW [97, 115] (adS p)) (optS [97, 115] (adS p)))))) := hid (by unfold nbCmd; dsimp only; rw [if_neg (by decide)]; simp only [ci, co, Bool.false_eq_true, if_false])
    have CI := hid ci
    have CO := hid co
    clear ci co
    go_enter Tryz.func153, Tryz.ntmps153
    go_wp2_with fail
    refine (zBr b B p _ H.out.st (H.out.env HE.out) HS.out).mono ?_
    rintro e w1 ⟨rfl, h1, k1⟩
    have H1 := hid (H.out.word h1 k1)
    clear h1 k1
    go_wp2_with (refine zAe rfl _ _ _ rfl rfl (ds := Nb.C ⟨adV p, 0, [], []⟩) rfl (HasC.new _ _ _) rfl Tryz.sizeNb (Nb.one ⟨adV p, 0, [], []⟩) ?_; intro w2 hx hg; have H2 := hid (RL.start H1.out hx hg); clear hx hg)
    refine (zAl b B (adS p) [97, 115] _ H2.out.base.st).mono ?_
    rintro e w3 ⟨rfl, h3, k3⟩
    have H3 := hid (H2.out.word h3 k3)
    clear h3 k3
    go_wp2_with fail
    refine (zCy b B (optS [97, 115] (adS p)) _ _ H3.out.base.st).mono ?_
    rintro e w4 ⟨rfl, h4, k4⟩
    have H4 := hid (H3.out.word h4 k4)
    clear h4 k4
    go_wp2_with fail
    refine (zAo b B (mustS _ (optS [97, 115] (adS p))) 1 65535 _ H4.out.base.st).mono ?_
    rintro e w5 ⟨rfl, h5, k5⟩
    have H5 := hid (H4.out.word h5 k5)
    clear h5 k5
    obtain ⟨y1, c1⟩ := H5.out.lsome (j := 1) (show 1 < 4 from by decide)
    have fz := H5.out.lfrz
    go_wp2_with fail
    refine (zAl b B (noS 1 65535 (mustS _ (optS [97, 115] (adS p)))) [105, 110] _ (H5.out.put 1 _ rfl).base.st).mono ?_
    rintro e w6 ⟨rfl, h6, k6⟩
    rw [zBx CI.out] at h6
    have H6 := hid ((H5.out.put 1 _ rfl).word h6 k6)
    clear h6 k6
    rw [CI.out]
    go_wp2_with fail
    refine (zAl b B (noS 1 65535 (mustS _ (optS [97, 115] (adS p)))) [111, 117, 116] _ H6.out.base.st).mono ?_
    rintro e w7 ⟨rfl, h7, k7⟩
    rw [zBx CO.out] at h7
    have H7 := hid (H6.out.word h7 k7)
    clear h7 k7
    rw [CO.out]
    go_wp2_with (refine zAa rfl _ _ rfl rfl (HasC.range (cs := Nb.C ⟨adV p, noV 1 65535 (mustS (isW [97, 115] (adS p)) (optS [97, 115] (adS p))), [], []⟩) H7.out.loc) Tryz.rowNb Tryz.sizeNb ?_)
    refine (repNb l ⟨adV p, noV 1 65535 (mustS (isW [97, 115] (adS p)) (optS [97, 115] (adS p))), [], []⟩ H7.out HL.out).mono ?_
    rintro e wz ⟨v5, rfl, h5⟩
    go_wp2_with fail
    go_ret
    rw [EE.out]
    exact ⟨v5, rfl, h5⟩
theorem zIz (v : Value) (l : List Cd) (no : Bool) (p : Ps) (w : World) (h : RS E 131 g b B w0 cs (pre ++ rowE 119 5 Cd.C v l :: post) p w) (he : EnvA B w0) (hs : p.short) (hl : l.length ≤ 1000000000) :
  Calls Tryz.prog 160 #[v, .bool no, .pointer (some ⟨b, 0, none⟩)] w (zCz E 131 g b B w0 cs pre post 119 5 Cd.C (cdCmd l no p).1 (cdCmd l no p).2) := by
 have H := hid h
 have HE := hid he
 have HS := hid hs
 have HL := hid hl
 clear h he hs hl
 cases no with
 | true =>
  have EE : Hid (cdCmd l true p = (dropL (fun y => decide (y.pa = (pxV p).1 ∧ y.pl = (pxV p).2)) l, pxS p)) := hid rfl
  go_enter Tryz.func160, Tryz.ntmps160
  go_wp2_with fail
  refine (zBw b B p _ H.out.st (H.out.env HE.out) HS.out).mono ?_
  rintro e w1 ⟨rfl, h1, k1⟩
  have H1 := hid (H.out.word h1 k1)
  clear h1 k1
  go_wp2_with (refine zAe rfl _ _ _ rfl rfl (ds := Cd.C ⟨(pxV p).1, (pxV p).2, 0, 0, false⟩) rfl (HasC.new _ _ _) rfl Tryz.sizeCd (Cd.one ⟨(pxV p).1, (pxV p).2, 0, 0, false⟩) ?_; intro w2 hx hg; have H2 := hid (RL.start H1.out hx hg); clear hx hg)
  refine (delCd l ⟨(pxV p).1, (pxV p).2, 0, 0, false⟩ H2.out).mono ?_
  rintro e wz ⟨v5, rfl, h5⟩
  go_wp2_with fail
  go_ret
  rw [EE.out]
  exact ⟨v5, rfl, h5⟩
 | false =>
  have EE : Hid (cdCmd l false p = (replL (fun y => decide (y.pa = (pxV p).1 ∧ y.pl = (pxV p).2)) ⟨(pxV p).1, (pxV p).2, (pxV (chS [105, 102] [117, 110, 108, 101, 115, 115] (pxS p))).1, (pxV (chS [105, 102] [117, 110, 108, 101, 115, 115] (pxS p))).2, !chB [105, 102] [117, 110, 108, 101, 115, 115] (pxS p)⟩ l, pxS (chS [105, 102] [117, 110, 108, 101, 115, 115] (pxS p)))) := hid rfl
  go_enter Tryz.func160, Tryz.ntmps160
  go_wp2_with fail
  refine (zBw b B p _ H.out.st (H.out.env HE.out) HS.out).mono ?_
  rintro e w1 ⟨rfl, h1, k1⟩
  have H1 := hid (H.out.word h1 k1)
  clear h1 k1
  go_wp2_with (refine zAe rfl _ _ _ rfl rfl (ds := Cd.C ⟨(pxV p).1, (pxV p).2, 0, 0, false⟩) rfl (HasC.new _ _ _) rfl Tryz.sizeCd (Cd.one ⟨(pxV p).1, (pxV p).2, 0, 0, false⟩) ?_; intro w2 hx hg; have H2 := hid (RL.start H1.out hx hg); clear hx hg)
  refine (zBg b B (pxS p) [105, 102] [117, 110, 108, 101, 115, 115] _ H2.out.base.st).mono ?_
  rintro e w3 ⟨rfl, h3, k3⟩
  have H3 := hid (H2.out.word h3 k3)
  clear h3 k3
  obtain ⟨y4, c4⟩ := H3.out.lsome (j := 4) (show 4 < 5 from by decide)
  have fz := H3.out.lfrz
  go_wp2_with fail
  refine (zBw b B (chS [105, 102] [117, 110, 108, 101, 115, 115] (pxS p)) _ (H3.out.put 4 _ rfl).base.st ((H3.out.put 4 _ rfl).env HE.out) (zCc _ _ (short_px HS.out))).mono ?_
  rintro e w4 ⟨rfl, h4, k4⟩
  have H4 := hid ((H3.out.put 4 _ rfl).word h4 k4)
  clear h4 k4
  obtain ⟨y2, c2⟩ := H4.out.lsome (j := 2) (show 2 < 5 from by decide)
  obtain ⟨y3, c3⟩ := H4.out.lsome (j := 3) (show 3 < 5 from by decide)
  have fz := H4.out.lfrz
  go_wp2_with (refine zAa rfl _ _ rfl rfl (HasC.range (cs := Cd.C ⟨(pxV p).1, (pxV p).2, (pxV (chS [105, 102] [117, 110, 108, 101, 115, 115] (pxS p))).1, (pxV (chS [105, 102] [117, 110, 108, 101, 115, 115] (pxS p))).2, !chB [105, 102] [117, 110, 108, 101, 115, 115] (pxS p)⟩) ((H4.out.put 2 _ rfl).put 3 _ rfl).loc) Tryz.rowCd Tryz.sizeCd ?_)
  refine (repCd l ⟨(pxV p).1, (pxV p).2, (pxV (chS [105, 102] [117, 110, 108, 101, 115, 115] (pxS p))).1, (pxV (chS [105, 102] [117, 110, 108, 101, 115, 115] (pxS p))).2, !chB [105, 102] [117, 110, 108, 101, 115, 115] (pxS p)⟩ ((H4.out.put 2 _ rfl).put 3 _ rfl) HL.out).mono ?_
  rintro e wz ⟨v5, rfl, h5⟩
  go_wp2_with fail
  go_ret
  rw [EE.out]
  exact ⟨v5, rfl, h5⟩
def rdM (b : Rd × Ps) : Rd × Ps := if isW [109, 101, 116, 114, 105, 99] b.2 then ({ b.1 with metric := noV 0 16777215 (optS [109, 101, 116, 114, 105, 99] b.2) }, noS 0 16777215 (optS [109, 101, 116, 114, 105, 99] b.2)) else b
theorem rdM_frm (b : Rd × Ps) : (rdM b).1.frm = b.1.frm := by unfold rdM; split <;> rfl
def rdT (b : Rd × Ps) : Rd × Ps := if isW [116, 97, 103] b.2 then ({ b.1 with tag := noV 0 65535 (optS [116, 97, 103] b.2) }, noS 0 65535 (optS [116, 97, 103] b.2)) else b
theorem rdT_frm (b : Rd × Ps) : (rdT b).1.frm = b.1.frm := by unfold rdT; split <;> rfl
def rdN (b : Rd × Ps) : Rd × Ps := if isW [109, 97, 112] b.2 then ({ b.1 with map := nmV (optS [109, 97, 112] b.2) }, nmS (optS [109, 97, 112] b.2)) else b
theorem rdN_frm (b : Rd × Ps) : (rdN b).1.frm = b.1.frm := by unfold rdN; split <;> rfl
def rdY (b : Rd × Ps) : Rd × Ps := if isW [116, 121, 112, 101] b.2 then ({ b.1 with typ := noV 1 2 (optS [116, 121, 112, 101] b.2) }, noS 1 2 (optS [116, 121, 112, 101] b.2)) else b
theorem rdY_frm (b : Rd × Ps) : (rdY b).1.frm = b.1.frm := by unfold rdY; split <;> rfl
theorem zGn (v : Value) (l : List Rd) (no : Bool) (p : Ps) (w : World) (h : RS E 131 g b B w0 cs (pre ++ rowE 151 5 Rd.C v l :: post) p w) (he : EnvA B w0) (hs : p.short) (hl : l.length ≤ 1000000000) :
  Calls Tryz.prog 152 #[v, .int .i64 3, .bool no, .pointer (some ⟨b, 0, none⟩)] w (zCz E 131 g b B w0 cs pre post 151 5 Rd.C (zCm l 3 no p).1 (zCm l 3 no p).2) := by
 have H := hid h
 have HE := hid he
 have HS := hid hs
 have HL := hid hl
 clear h he hs hl
 cases no with
 | true =>
  have EE : Hid (zCm l 3 true p = (dropL (fun y => y.frm == srcV p) l, srcS p)) := hid rfl
  go_enter Tryz.func152, Tryz.ntmps152
  go_wp2_with fail
  refine (zEv b B p _ H.out.st).mono ?_
  rintro e w1 ⟨rfl, h1, k1⟩
  have H1 := hid (H.out.word h1 k1)
  clear h1 k1
  go_wp2_with (refine zAe rfl _ _ _ rfl rfl (ds := Rd.C ⟨srcV p, 0, 0, [], 0⟩) rfl (HasC.new _ _ _) rfl Tryz.sizeRd (Rd.one ⟨srcV p, 0, 0, [], 0⟩) ?_; intro w2 hx hg; have H2 := hid (RL.start H1.out hx hg); clear hx hg)
  refine (delRd l ⟨srcV p, 0, 0, [], 0⟩ H2.out).mono ?_
  rintro e wz ⟨v5, rfl, h5⟩
  go_wp2_with fail
  go_ret
  rw [EE.out]
  exact ⟨v5, rfl, h5⟩
 | false =>
  have EE : Hid (zCm l 3 false p = (replL (fun y => y.frm == srcV p) (rdY (rdN (rdT (rdM ((⟨srcV p, 20, 0, [], 2⟩ : Rd), srcS p))))).1 l, (rdY (rdN (rdT (rdM ((⟨srcV p, 20, 0, [], 2⟩ : Rd), srcS p))))).2)) := hid rfl
  have EF : Hid ((rdY (rdN (rdT (rdM ((⟨srcV p, 20, 0, [], 2⟩ : Rd), srcS p))))).1.frm = srcV p) := hid (by rw [rdY_frm, rdN_frm, rdT_frm, rdM_frm])
  go_enter Tryz.func152, Tryz.ntmps152
  go_wp2_with fail
  refine (zEv b B p _ H.out.st).mono ?_
  rintro e w1 ⟨rfl, h1, k1⟩
  have H1 := hid (H.out.word h1 k1)
  clear h1 k1
  go_upto_region 5 with (refine zAe rfl _ _ _ rfl rfl (ds := Rd.C ⟨srcV p, 0, 0, [], 0⟩) rfl (HasC.new _ _ _) rfl Tryz.sizeRd (Rd.one ⟨srcV p, 0, 0, [], 0⟩) ?_; intro w2 hx hg; have H2 := hid (RL.start H1.out hx hg); clear hx hg)
  obtain ⟨y1, c1⟩ := H2.out.lsome (j := 1) (show 1 < 5 from by decide)
  obtain ⟨y4, c4⟩ := H2.out.lsome (j := 4) (show 4 < 5 from by decide)
  have fz := H2.out.lfrz
  go_wp2_with fail
  refine (zAl b B (srcS p) [109, 101, 116, 114, 105, 99] _ ((H2.out.put 1 _ rfl).put 4 _ rfl).base.st).mono ?_
  rintro e w3 ⟨rfl, h3, k3⟩
  have H3 := hid (((H2.out.put 1 _ rfl).put 4 _ rfl).word h3 k3)
  clear h3 k3
  go_upto_if 28 with fail
  go_cut [] (fun wx => RL E 131 g b B w0 cs (pre ++ rowE 151 5 Rd.C v l :: post) (rdM ((⟨srcV p, 20, 0, [], 2⟩ : Rd), srcS p)).2 151 w1.heap.size (Rd.C (rdM ((⟨srcV p, 20, 0, [], 2⟩ : Rd), srcS p)).1) wx)
  case first =>
   cases c : isW [109, 101, 116, 114, 105, 99] (srcS p) with
   | true =>
    have EC : Hid (rdM ((⟨srcV p, 20, 0, [], 2⟩ : Rd), srcS p) = ({ ((⟨srcV p, 20, 0, [], 2⟩ : Rd), srcS p).1 with metric := noV 0 16777215 (optS [109, 101, 116, 114, 105, 99] (srcS p)) }, noS 0 16777215 (optS [109, 101, 116, 114, 105, 99] (srcS p)))) := hid (if_pos c)
    clear c
    go_wp2_with fail
    refine (zAo b B (optS [109, 101, 116, 114, 105, 99] (srcS p)) 0 16777215 _ H3.out.base.st).mono ?_
    rintro e w4 ⟨rfl, h4, k4⟩
    have H4 := hid (H3.out.word h4 k4)
    clear h4 k4
    obtain ⟨y1, c1⟩ := H4.out.lsome (j := 1) (show 1 < 5 from by decide)
    have fz := H4.out.lfrz
    go_wp2_with fail
    go_meet
    rw [EC.out]
    exact (H4.out.put 1 _ rfl)
   | false =>
    have EC : Hid (rdM ((⟨srcV p, 20, 0, [], 2⟩ : Rd), srcS p) = ((⟨srcV p, 20, 0, [], 2⟩ : Rd), srcS p)) := hid (if_neg (by rw [c]; decide))
    have EO := zBx c
    rw [EO] at H3
    clear c EO
    go_wp2_with fail
    go_meet
    rw [EC.out]
    exact H3.out
  case rest =>
   have MX := hid hcut
   clear hcut
   go_wp2_with fail
   refine (zAl b B (rdM ((⟨srcV p, 20, 0, [], 2⟩ : Rd), srcS p)).2 [116, 97, 103] _ MX.out.base.st).mono ?_
   rintro e w4 ⟨rfl, h4, k4⟩
   have H4 := hid (MX.out.word h4 k4)
   clear h4 k4
   go_upto_if 33 with fail
   go_cut [] (fun wx => RL E 131 g b B w0 cs (pre ++ rowE 151 5 Rd.C v l :: post) (rdT (rdM ((⟨srcV p, 20, 0, [], 2⟩ : Rd), srcS p))).2 151 w1.heap.size (Rd.C (rdT (rdM ((⟨srcV p, 20, 0, [], 2⟩ : Rd), srcS p))).1) wx)
   case first =>
    cases c : isW [116, 97, 103] (rdM ((⟨srcV p, 20, 0, [], 2⟩ : Rd), srcS p)).2 with
    | true =>
     have EC : Hid (rdT (rdM ((⟨srcV p, 20, 0, [], 2⟩ : Rd), srcS p)) = ({ (rdM ((⟨srcV p, 20, 0, [], 2⟩ : Rd), srcS p)).1 with tag := noV 0 65535 (optS [116, 97, 103] (rdM ((⟨srcV p, 20, 0, [], 2⟩ : Rd), srcS p)).2) }, noS 0 65535 (optS [116, 97, 103] (rdM ((⟨srcV p, 20, 0, [], 2⟩ : Rd), srcS p)).2))) := hid (if_pos c)
     clear c
     go_wp2_with fail
     refine (zAo b B (optS [116, 97, 103] (rdM ((⟨srcV p, 20, 0, [], 2⟩ : Rd), srcS p)).2) 0 65535 _ H4.out.base.st).mono ?_
     rintro e w5 ⟨rfl, h5, k5⟩
     have H5 := hid (H4.out.word h5 k5)
     clear h5 k5
     obtain ⟨y2, c2⟩ := H5.out.lsome (j := 2) (show 2 < 5 from by decide)
     have fz := H5.out.lfrz
     go_wp2_with fail
     go_meet
     rw [EC.out]
     exact (H5.out.put 2 _ rfl)
    | false =>
     have EC : Hid (rdT (rdM ((⟨srcV p, 20, 0, [], 2⟩ : Rd), srcS p)) = (rdM ((⟨srcV p, 20, 0, [], 2⟩ : Rd), srcS p))) := hid (if_neg (by rw [c]; decide))
     have EO := zBx c
     rw [EO] at H4
     clear c EO
     go_wp2_with fail
     go_meet
     rw [EC.out]
     exact H4.out
   case rest =>
    have MX := hid hcut
    clear hcut
    go_wp2_with fail
    refine (zAl b B (rdT (rdM ((⟨srcV p, 20, 0, [], 2⟩ : Rd), srcS p))).2 [109, 97, 112] _ MX.out.base.st).mono ?_
    rintro e w5 ⟨rfl, h5, k5⟩
    have H5 := hid (MX.out.word h5 k5)
    clear h5 k5
    go_upto_if 38 with fail
    go_cut [] (fun wx => RL E 131 g b B w0 cs (pre ++ rowE 151 5 Rd.C v l :: post) (rdN (rdT (rdM ((⟨srcV p, 20, 0, [], 2⟩ : Rd), srcS p)))).2 151 w1.heap.size (Rd.C (rdN (rdT (rdM ((⟨srcV p, 20, 0, [], 2⟩ : Rd), srcS p)))).1) wx)
    case first =>
     cases c : isW [109, 97, 112] (rdT (rdM ((⟨srcV p, 20, 0, [], 2⟩ : Rd), srcS p))).2 with
     | true =>
      have EC : Hid (rdN (rdT (rdM ((⟨srcV p, 20, 0, [], 2⟩ : Rd), srcS p))) = ({ (rdT (rdM ((⟨srcV p, 20, 0, [], 2⟩ : Rd), srcS p))).1 with map := nmV (optS [109, 97, 112] (rdT (rdM ((⟨srcV p, 20, 0, [], 2⟩ : Rd), srcS p))).2) }, nmS (optS [109, 97, 112] (rdT (rdM ((⟨srcV p, 20, 0, [], 2⟩ : Rd), srcS p))).2))) := hid (if_pos c)
      clear c
      go_wp2_with fail
      refine (zBb b B (optS [109, 97, 112] (rdT (rdM ((⟨srcV p, 20, 0, [], 2⟩ : Rd), srcS p))).2) _ H5.out.base.st).mono ?_
      rintro e w6 ⟨rfl, h6, k6⟩
      have H6 := hid (H5.out.word h6 k6)
      clear h6 k6
      unfold strV
      obtain ⟨y3, c3⟩ := H6.out.lsome (j := 3) (show 3 < 5 from by decide)
      have fz := H6.out.lfrz
      go_wp2_with fail
      go_meet
      rw [EC.out]
      exact (H6.out.put 3 _ rfl)
     | false =>
      have EC : Hid (rdN (rdT (rdM ((⟨srcV p, 20, 0, [], 2⟩ : Rd), srcS p))) = (rdT (rdM ((⟨srcV p, 20, 0, [], 2⟩ : Rd), srcS p)))) := hid (if_neg (by rw [c]; decide))
      have EO := zBx c
      rw [EO] at H5
      clear c EO
      go_wp2_with fail
      go_meet
      rw [EC.out]
      exact H5.out
    case rest =>
     have MX := hid hcut
     clear hcut
     go_wp2_with fail
     refine (zAl b B (rdN (rdT (rdM ((⟨srcV p, 20, 0, [], 2⟩ : Rd), srcS p)))).2 [116, 121, 112, 101] _ MX.out.base.st).mono ?_
     rintro e w6 ⟨rfl, h6, k6⟩
     have H6 := hid (MX.out.word h6 k6)
     clear h6 k6
     go_upto_if 47 with fail
     go_cut [] (fun wx => RL E 131 g b B w0 cs (pre ++ rowE 151 5 Rd.C v l :: post) (rdY (rdN (rdT (rdM ((⟨srcV p, 20, 0, [], 2⟩ : Rd), srcS p))))).2 151 w1.heap.size (Rd.C (rdY (rdN (rdT (rdM ((⟨srcV p, 20, 0, [], 2⟩ : Rd), srcS p))))).1) wx)
     case first =>
      cases c : isW [116, 121, 112, 101] (rdN (rdT (rdM ((⟨srcV p, 20, 0, [], 2⟩ : Rd), srcS p)))).2 with
      | true =>
       have EC : Hid (rdY (rdN (rdT (rdM ((⟨srcV p, 20, 0, [], 2⟩ : Rd), srcS p)))) = ({ (rdN (rdT (rdM ((⟨srcV p, 20, 0, [], 2⟩ : Rd), srcS p)))).1 with typ := noV 1 2 (optS [116, 121, 112, 101] (rdN (rdT (rdM ((⟨srcV p, 20, 0, [], 2⟩ : Rd), srcS p)))).2) }, noS 1 2 (optS [116, 121, 112, 101] (rdN (rdT (rdM ((⟨srcV p, 20, 0, [], 2⟩ : Rd), srcS p)))).2))) := hid (if_pos c)
       clear c
       go_wp2_with fail
       refine (zAo b B (optS [116, 121, 112, 101] (rdN (rdT (rdM ((⟨srcV p, 20, 0, [], 2⟩ : Rd), srcS p)))).2) 1 2 _ H6.out.base.st).mono ?_
       rintro e w7 ⟨rfl, h7, k7⟩
       have H7 := hid (H6.out.word h7 k7)
       clear h7 k7
       obtain ⟨y4, c4⟩ := H7.out.lsome (j := 4) (show 4 < 5 from by decide)
       have fz := H7.out.lfrz
       go_wp2_with fail
       go_meet
       rw [EC.out]
       exact (H7.out.put 4 _ rfl)
      | false =>
       have EC : Hid (rdY (rdN (rdT (rdM ((⟨srcV p, 20, 0, [], 2⟩ : Rd), srcS p)))) = (rdN (rdT (rdM ((⟨srcV p, 20, 0, [], 2⟩ : Rd), srcS p))))) := hid (if_neg (by rw [c]; decide))
       have EO := zBx c
       rw [EO] at H6
       clear c EO
       go_wp2_with fail
       go_meet
       rw [EC.out]
       exact H6.out
     case rest =>
      have MX := hid hcut
      clear hcut
      go_wp2_with (refine zAa rfl _ _ rfl rfl (HasC.range (cs := Rd.C (rdY (rdN (rdT (rdM ((⟨srcV p, 20, 0, [], 2⟩ : Rd), srcS p))))).1) MX.out.loc) Tryz.rowRd Tryz.sizeRd ?_)
      refine (repRd l (rdY (rdN (rdT (rdM ((⟨srcV p, 20, 0, [], 2⟩ : Rd), srcS p))))).1 MX.out HL.out).mono ?_
      rintro e wz ⟨v5, rfl, h5⟩
      go_wp2_with fail
      go_ret
      rw [EF.out] at h5
      rw [EE.out]
      exact ⟨v5, rfl, h5⟩
theorem zGh (v : Value) (l : List Rd) (no : Bool) (p : Ps) (w : World) (h : RS E 131 g b B w0 cs (pre ++ rowE 151 5 Rd.C v l :: post) p w) (he : EnvA B w0) (hs : p.short) (hl : l.length ≤ 1000000000) :
  Calls Tryz.prog 152 #[v, .int .i64 4, .bool no, .pointer (some ⟨b, 0, none⟩)] w (zCz E 131 g b B w0 cs pre post 151 5 Rd.C (zCm l 4 no p).1 (zCm l 4 no p).2) := by
 have H := hid h
 have HE := hid he
 have HS := hid hs
 have HL := hid hl
 clear h he hs hl
 cases no with
 | true =>
  have EE : Hid (zCm l 4 true p = (dropL (fun y => y.frm == srcV p) l, srcS p)) := hid rfl
  go_enter Tryz.func152, Tryz.ntmps152
  go_wp2_with fail
  refine (zEv b B p _ H.out.st).mono ?_
  rintro e w1 ⟨rfl, h1, k1⟩
  have H1 := hid (H.out.word h1 k1)
  clear h1 k1
  go_wp2_with (refine zAe rfl _ _ _ rfl rfl (ds := Rd.C ⟨srcV p, 0, 0, [], 0⟩) rfl (HasC.new _ _ _) rfl Tryz.sizeRd (Rd.one ⟨srcV p, 0, 0, [], 0⟩) ?_; intro w2 hx hg; have H2 := hid (RL.start H1.out hx hg); clear hx hg)
  refine (delRd l ⟨srcV p, 0, 0, [], 0⟩ H2.out).mono ?_
  rintro e wz ⟨v5, rfl, h5⟩
  go_wp2_with fail
  go_ret
  rw [EE.out]
  exact ⟨v5, rfl, h5⟩
 | false =>
  have EE : Hid (zCm l 4 false p = (replL (fun y => y.frm == srcV p) (rdN (rdT (rdM ((⟨srcV p, 1, 0, [], 0⟩ : Rd), srcS p)))).1 l, (rdN (rdT (rdM ((⟨srcV p, 1, 0, [], 0⟩ : Rd), srcS p)))).2)) := hid rfl
  have EF : Hid ((rdN (rdT (rdM ((⟨srcV p, 1, 0, [], 0⟩ : Rd), srcS p)))).1.frm = srcV p) := hid (by rw [rdN_frm, rdT_frm, rdM_frm])
  go_enter Tryz.func152, Tryz.ntmps152
  go_wp2_with fail
  refine (zEv b B p _ H.out.st).mono ?_
  rintro e w1 ⟨rfl, h1, k1⟩
  have H1 := hid (H.out.word h1 k1)
  clear h1 k1
  go_upto_region 5 with (refine zAe rfl _ _ _ rfl rfl (ds := Rd.C ⟨srcV p, 0, 0, [], 0⟩) rfl (HasC.new _ _ _) rfl Tryz.sizeRd (Rd.one ⟨srcV p, 0, 0, [], 0⟩) ?_; intro w2 hx hg; have H2 := hid (RL.start H1.out hx hg); clear hx hg)
  obtain ⟨y1, c1⟩ := H2.out.lsome (j := 1) (show 1 < 5 from by decide)
  have fz := H2.out.lfrz
  go_wp2_with fail
  refine (zAl b B (srcS p) [109, 101, 116, 114, 105, 99] _ (H2.out.put 1 _ rfl).base.st).mono ?_
  rintro e w3 ⟨rfl, h3, k3⟩
  have H3 := hid ((H2.out.put 1 _ rfl).word h3 k3)
  clear h3 k3
  go_upto_if 28 with fail
  go_cut [] (fun wx => RL E 131 g b B w0 cs (pre ++ rowE 151 5 Rd.C v l :: post) (rdM ((⟨srcV p, 1, 0, [], 0⟩ : Rd), srcS p)).2 151 w1.heap.size (Rd.C (rdM ((⟨srcV p, 1, 0, [], 0⟩ : Rd), srcS p)).1) wx)
  case first =>
   cases c : isW [109, 101, 116, 114, 105, 99] (srcS p) with
   | true =>
    have EC : Hid (rdM ((⟨srcV p, 1, 0, [], 0⟩ : Rd), srcS p) = ({ ((⟨srcV p, 1, 0, [], 0⟩ : Rd), srcS p).1 with metric := noV 0 16777215 (optS [109, 101, 116, 114, 105, 99] (srcS p)) }, noS 0 16777215 (optS [109, 101, 116, 114, 105, 99] (srcS p)))) := hid (if_pos c)
    clear c
    go_wp2_with fail
    refine (zAo b B (optS [109, 101, 116, 114, 105, 99] (srcS p)) 0 16777215 _ H3.out.base.st).mono ?_
    rintro e w4 ⟨rfl, h4, k4⟩
    have H4 := hid (H3.out.word h4 k4)
    clear h4 k4
    obtain ⟨y1, c1⟩ := H4.out.lsome (j := 1) (show 1 < 5 from by decide)
    have fz := H4.out.lfrz
    go_wp2_with fail
    go_meet
    rw [EC.out]
    exact (H4.out.put 1 _ rfl)
   | false =>
    have EC : Hid (rdM ((⟨srcV p, 1, 0, [], 0⟩ : Rd), srcS p) = ((⟨srcV p, 1, 0, [], 0⟩ : Rd), srcS p)) := hid (if_neg (by rw [c]; decide))
    have EO := zBx c
    rw [EO] at H3
    clear c EO
    go_wp2_with fail
    go_meet
    rw [EC.out]
    exact H3.out
  case rest =>
   have MX := hid hcut
   clear hcut
   go_wp2_with fail
   refine (zAl b B (rdM ((⟨srcV p, 1, 0, [], 0⟩ : Rd), srcS p)).2 [116, 97, 103] _ MX.out.base.st).mono ?_
   rintro e w4 ⟨rfl, h4, k4⟩
   have H4 := hid (MX.out.word h4 k4)
   clear h4 k4
   go_upto_if 33 with fail
   go_cut [] (fun wx => RL E 131 g b B w0 cs (pre ++ rowE 151 5 Rd.C v l :: post) (rdT (rdM ((⟨srcV p, 1, 0, [], 0⟩ : Rd), srcS p))).2 151 w1.heap.size (Rd.C (rdT (rdM ((⟨srcV p, 1, 0, [], 0⟩ : Rd), srcS p))).1) wx)
   case first =>
    cases c : isW [116, 97, 103] (rdM ((⟨srcV p, 1, 0, [], 0⟩ : Rd), srcS p)).2 with
    | true =>
     have EC : Hid (rdT (rdM ((⟨srcV p, 1, 0, [], 0⟩ : Rd), srcS p)) = ({ (rdM ((⟨srcV p, 1, 0, [], 0⟩ : Rd), srcS p)).1 with tag := noV 0 65535 (optS [116, 97, 103] (rdM ((⟨srcV p, 1, 0, [], 0⟩ : Rd), srcS p)).2) }, noS 0 65535 (optS [116, 97, 103] (rdM ((⟨srcV p, 1, 0, [], 0⟩ : Rd), srcS p)).2))) := hid (if_pos c)
     clear c
     go_wp2_with fail
     refine (zAo b B (optS [116, 97, 103] (rdM ((⟨srcV p, 1, 0, [], 0⟩ : Rd), srcS p)).2) 0 65535 _ H4.out.base.st).mono ?_
     rintro e w5 ⟨rfl, h5, k5⟩
     have H5 := hid (H4.out.word h5 k5)
     clear h5 k5
     obtain ⟨y2, c2⟩ := H5.out.lsome (j := 2) (show 2 < 5 from by decide)
     have fz := H5.out.lfrz
     go_wp2_with fail
     go_meet
     rw [EC.out]
     exact (H5.out.put 2 _ rfl)
    | false =>
     have EC : Hid (rdT (rdM ((⟨srcV p, 1, 0, [], 0⟩ : Rd), srcS p)) = (rdM ((⟨srcV p, 1, 0, [], 0⟩ : Rd), srcS p))) := hid (if_neg (by rw [c]; decide))
     have EO := zBx c
     rw [EO] at H4
     clear c EO
     go_wp2_with fail
     go_meet
     rw [EC.out]
     exact H4.out
   case rest =>
    have MX := hid hcut
    clear hcut
    go_wp2_with fail
    refine (zAl b B (rdT (rdM ((⟨srcV p, 1, 0, [], 0⟩ : Rd), srcS p))).2 [109, 97, 112] _ MX.out.base.st).mono ?_
    rintro e w5 ⟨rfl, h5, k5⟩
    have H5 := hid (MX.out.word h5 k5)
    clear h5 k5
    go_upto_if 38 with fail
    go_cut [] (fun wx => RL E 131 g b B w0 cs (pre ++ rowE 151 5 Rd.C v l :: post) (rdN (rdT (rdM ((⟨srcV p, 1, 0, [], 0⟩ : Rd), srcS p)))).2 151 w1.heap.size (Rd.C (rdN (rdT (rdM ((⟨srcV p, 1, 0, [], 0⟩ : Rd), srcS p)))).1) wx)
    case first =>
     cases c : isW [109, 97, 112] (rdT (rdM ((⟨srcV p, 1, 0, [], 0⟩ : Rd), srcS p))).2 with
     | true =>
      have EC : Hid (rdN (rdT (rdM ((⟨srcV p, 1, 0, [], 0⟩ : Rd), srcS p))) = ({ (rdT (rdM ((⟨srcV p, 1, 0, [], 0⟩ : Rd), srcS p))).1 with map := nmV (optS [109, 97, 112] (rdT (rdM ((⟨srcV p, 1, 0, [], 0⟩ : Rd), srcS p))).2) }, nmS (optS [109, 97, 112] (rdT (rdM ((⟨srcV p, 1, 0, [], 0⟩ : Rd), srcS p))).2))) := hid (if_pos c)
      clear c
      go_wp2_with fail
      refine (zBb b B (optS [109, 97, 112] (rdT (rdM ((⟨srcV p, 1, 0, [], 0⟩ : Rd), srcS p))).2) _ H5.out.base.st).mono ?_
      rintro e w6 ⟨rfl, h6, k6⟩
      have H6 := hid (H5.out.word h6 k6)
      clear h6 k6
      unfold strV
      obtain ⟨y3, c3⟩ := H6.out.lsome (j := 3) (show 3 < 5 from by decide)
      have fz := H6.out.lfrz
      go_wp2_with fail
      go_meet
      rw [EC.out]
      exact (H6.out.put 3 _ rfl)
     | false =>
      have EC : Hid (rdN (rdT (rdM ((⟨srcV p, 1, 0, [], 0⟩ : Rd), srcS p))) = (rdT (rdM ((⟨srcV p, 1, 0, [], 0⟩ : Rd), srcS p)))) := hid (if_neg (by rw [c]; decide))
      have EO := zBx c
      rw [EO] at H5
      clear c EO
      go_wp2_with fail
      go_meet
      rw [EC.out]
      exact H5.out
    case rest =>
     have MX := hid hcut
     clear hcut
     go_wp2_with (refine zAa rfl _ _ rfl rfl (HasC.range (cs := Rd.C (rdN (rdT (rdM ((⟨srcV p, 1, 0, [], 0⟩ : Rd), srcS p)))).1) MX.out.loc) Tryz.rowRd Tryz.sizeRd ?_)
     refine (repRd l (rdN (rdT (rdM ((⟨srcV p, 1, 0, [], 0⟩ : Rd), srcS p)))).1 MX.out HL.out).mono ?_
     rintro e wz ⟨v5, rfl, h5⟩
     go_wp2_with fail
     go_ret
     rw [EF.out] at h5
     rw [EE.out]
     exact ⟨v5, rfl, h5⟩
theorem zGo (v : Value) (l : List Rd) (no : Bool) (p : Ps) (w : World) (h : RS E 131 g b B w0 cs (pre ++ rowE 151 5 Rd.C v l :: post) p w) (he : EnvA B w0) (hs : p.short) (hl : l.length ≤ 1000000000) :
  Calls Tryz.prog 152 #[v, .int .i64 5, .bool no, .pointer (some ⟨b, 0, none⟩)] w (zCz E 131 g b B w0 cs pre post 151 5 Rd.C (zCm l 5 no p).1 (zCm l 5 no p).2) := by
 have H := hid h
 have HE := hid he
 have HS := hid hs
 have HL := hid hl
 clear h he hs hl
 cases no with
 | true =>
  have EE : Hid (zCm l 5 true p = (dropL (fun y => y.frm == srcV p) l, srcS p)) := hid rfl
  go_enter Tryz.func152, Tryz.ntmps152
  go_wp2_with fail
  refine (zEv b B p _ H.out.st).mono ?_
  rintro e w1 ⟨rfl, h1, k1⟩
  have H1 := hid (H.out.word h1 k1)
  clear h1 k1
  go_wp2_with (refine zAe rfl _ _ _ rfl rfl (ds := Rd.C ⟨srcV p, 0, 0, [], 0⟩) rfl (HasC.new _ _ _) rfl Tryz.sizeRd (Rd.one ⟨srcV p, 0, 0, [], 0⟩) ?_; intro w2 hx hg; have H2 := hid (RL.start H1.out hx hg); clear hx hg)
  refine (delRd l ⟨srcV p, 0, 0, [], 0⟩ H2.out).mono ?_
  rintro e wz ⟨v5, rfl, h5⟩
  go_wp2_with fail
  go_ret
  rw [EE.out]
  exact ⟨v5, rfl, h5⟩
 | false =>
  have EE : Hid (zCm l 5 false p = (replL (fun y => y.frm == srcV p) (rdN (rdT (rdM ((⟨srcV p, 0, 0, [], 0⟩ : Rd), srcS p)))).1 l, (rdN (rdT (rdM ((⟨srcV p, 0, 0, [], 0⟩ : Rd), srcS p)))).2)) := hid rfl
  have EF : Hid ((rdN (rdT (rdM ((⟨srcV p, 0, 0, [], 0⟩ : Rd), srcS p)))).1.frm = srcV p) := hid (by rw [rdN_frm, rdT_frm, rdM_frm])
  go_enter Tryz.func152, Tryz.ntmps152
  go_wp2_with fail
  refine (zEv b B p _ H.out.st).mono ?_
  rintro e w1 ⟨rfl, h1, k1⟩
  have H1 := hid (H.out.word h1 k1)
  clear h1 k1
  go_upto_region 5 with (refine zAe rfl _ _ _ rfl rfl (ds := Rd.C ⟨srcV p, 0, 0, [], 0⟩) rfl (HasC.new _ _ _) rfl Tryz.sizeRd (Rd.one ⟨srcV p, 0, 0, [], 0⟩) ?_; intro w2 hx hg; have H2 := hid (RL.start H1.out hx hg); clear hx hg)
  go_wp2_with fail
  refine (zAl b B (srcS p) [109, 101, 116, 114, 105, 99] _ H2.out.base.st).mono ?_
  rintro e w3 ⟨rfl, h3, k3⟩
  have H3 := hid (H2.out.word h3 k3)
  clear h3 k3
  go_upto_if 28 with fail
  go_cut [] (fun wx => RL E 131 g b B w0 cs (pre ++ rowE 151 5 Rd.C v l :: post) (rdM ((⟨srcV p, 0, 0, [], 0⟩ : Rd), srcS p)).2 151 w1.heap.size (Rd.C (rdM ((⟨srcV p, 0, 0, [], 0⟩ : Rd), srcS p)).1) wx)
  case first =>
   cases c : isW [109, 101, 116, 114, 105, 99] (srcS p) with
   | true =>
    have EC : Hid (rdM ((⟨srcV p, 0, 0, [], 0⟩ : Rd), srcS p) = ({ ((⟨srcV p, 0, 0, [], 0⟩ : Rd), srcS p).1 with metric := noV 0 16777215 (optS [109, 101, 116, 114, 105, 99] (srcS p)) }, noS 0 16777215 (optS [109, 101, 116, 114, 105, 99] (srcS p)))) := hid (if_pos c)
    clear c
    go_wp2_with fail
    refine (zAo b B (optS [109, 101, 116, 114, 105, 99] (srcS p)) 0 16777215 _ H3.out.base.st).mono ?_
    rintro e w4 ⟨rfl, h4, k4⟩
    have H4 := hid (H3.out.word h4 k4)
    clear h4 k4
    obtain ⟨y1, c1⟩ := H4.out.lsome (j := 1) (show 1 < 5 from by decide)
    have fz := H4.out.lfrz
    go_wp2_with fail
    go_meet
    rw [EC.out]
    exact (H4.out.put 1 _ rfl)
   | false =>
    have EC : Hid (rdM ((⟨srcV p, 0, 0, [], 0⟩ : Rd), srcS p) = ((⟨srcV p, 0, 0, [], 0⟩ : Rd), srcS p)) := hid (if_neg (by rw [c]; decide))
    have EO := zBx c
    rw [EO] at H3
    clear c EO
    go_wp2_with fail
    go_meet
    rw [EC.out]
    exact H3.out
  case rest =>
   have MX := hid hcut
   clear hcut
   go_wp2_with fail
   refine (zAl b B (rdM ((⟨srcV p, 0, 0, [], 0⟩ : Rd), srcS p)).2 [116, 97, 103] _ MX.out.base.st).mono ?_
   rintro e w4 ⟨rfl, h4, k4⟩
   have H4 := hid (MX.out.word h4 k4)
   clear h4 k4
   go_upto_if 33 with fail
   go_cut [] (fun wx => RL E 131 g b B w0 cs (pre ++ rowE 151 5 Rd.C v l :: post) (rdT (rdM ((⟨srcV p, 0, 0, [], 0⟩ : Rd), srcS p))).2 151 w1.heap.size (Rd.C (rdT (rdM ((⟨srcV p, 0, 0, [], 0⟩ : Rd), srcS p))).1) wx)
   case first =>
    cases c : isW [116, 97, 103] (rdM ((⟨srcV p, 0, 0, [], 0⟩ : Rd), srcS p)).2 with
    | true =>
     have EC : Hid (rdT (rdM ((⟨srcV p, 0, 0, [], 0⟩ : Rd), srcS p)) = ({ (rdM ((⟨srcV p, 0, 0, [], 0⟩ : Rd), srcS p)).1 with tag := noV 0 65535 (optS [116, 97, 103] (rdM ((⟨srcV p, 0, 0, [], 0⟩ : Rd), srcS p)).2) }, noS 0 65535 (optS [116, 97, 103] (rdM ((⟨srcV p, 0, 0, [], 0⟩ : Rd), srcS p)).2))) := hid (if_pos c)
     clear c
     go_wp2_with fail
     refine (zAo b B (optS [116, 97, 103] (rdM ((⟨srcV p, 0, 0, [], 0⟩ : Rd), srcS p)).2) 0 65535 _ H4.out.base.st).mono ?_
     rintro e w5 ⟨rfl, h5, k5⟩
     have H5 := hid (H4.out.word h5 k5)
     clear h5 k5
     obtain ⟨y2, c2⟩ := H5.out.lsome (j := 2) (show 2 < 5 from by decide)
     have fz := H5.out.lfrz
     go_wp2_with fail
     go_meet
     rw [EC.out]
     exact (H5.out.put 2 _ rfl)
    | false =>
     have EC : Hid (rdT (rdM ((⟨srcV p, 0, 0, [], 0⟩ : Rd), srcS p)) = (rdM ((⟨srcV p, 0, 0, [], 0⟩ : Rd), srcS p))) := hid (if_neg (by rw [c]; decide))
     have EO := zBx c
     rw [EO] at H4
     clear c EO
     go_wp2_with fail
     go_meet
     rw [EC.out]
     exact H4.out
   case rest =>
    have MX := hid hcut
    clear hcut
    go_wp2_with fail
    refine (zAl b B (rdT (rdM ((⟨srcV p, 0, 0, [], 0⟩ : Rd), srcS p))).2 [109, 97, 112] _ MX.out.base.st).mono ?_
    rintro e w5 ⟨rfl, h5, k5⟩
    have H5 := hid (MX.out.word h5 k5)
    clear h5 k5
    go_upto_if 38 with fail
    go_cut [] (fun wx => RL E 131 g b B w0 cs (pre ++ rowE 151 5 Rd.C v l :: post) (rdN (rdT (rdM ((⟨srcV p, 0, 0, [], 0⟩ : Rd), srcS p)))).2 151 w1.heap.size (Rd.C (rdN (rdT (rdM ((⟨srcV p, 0, 0, [], 0⟩ : Rd), srcS p)))).1) wx)
    case first =>
     cases c : isW [109, 97, 112] (rdT (rdM ((⟨srcV p, 0, 0, [], 0⟩ : Rd), srcS p))).2 with
     | true =>
      have EC : Hid (rdN (rdT (rdM ((⟨srcV p, 0, 0, [], 0⟩ : Rd), srcS p))) = ({ (rdT (rdM ((⟨srcV p, 0, 0, [], 0⟩ : Rd), srcS p))).1 with map := nmV (optS [109, 97, 112] (rdT (rdM ((⟨srcV p, 0, 0, [], 0⟩ : Rd), srcS p))).2) }, nmS (optS [109, 97, 112] (rdT (rdM ((⟨srcV p, 0, 0, [], 0⟩ : Rd), srcS p))).2))) := hid (if_pos c)
      clear c
      go_wp2_with fail
      refine (zBb b B (optS [109, 97, 112] (rdT (rdM ((⟨srcV p, 0, 0, [], 0⟩ : Rd), srcS p))).2) _ H5.out.base.st).mono ?_
      rintro e w6 ⟨rfl, h6, k6⟩
      have H6 := hid (H5.out.word h6 k6)
      clear h6 k6
      unfold strV
      obtain ⟨y3, c3⟩ := H6.out.lsome (j := 3) (show 3 < 5 from by decide)
      have fz := H6.out.lfrz
      go_wp2_with fail
      go_meet
      rw [EC.out]
      exact (H6.out.put 3 _ rfl)
     | false =>
      have EC : Hid (rdN (rdT (rdM ((⟨srcV p, 0, 0, [], 0⟩ : Rd), srcS p))) = (rdT (rdM ((⟨srcV p, 0, 0, [], 0⟩ : Rd), srcS p)))) := hid (if_neg (by rw [c]; decide))
      have EO := zBx c
      rw [EO] at H5
      clear c EO
      go_wp2_with fail
      go_meet
      rw [EC.out]
      exact H5.out
    case rest =>
     have MX := hid hcut
     clear hcut
     go_wp2_with (refine zAa rfl _ _ rfl rfl (HasC.range (cs := Rd.C (rdN (rdT (rdM ((⟨srcV p, 0, 0, [], 0⟩ : Rd), srcS p)))).1) MX.out.loc) Tryz.rowRd Tryz.sizeRd ?_)
     refine (repRd l (rdN (rdT (rdM ((⟨srcV p, 0, 0, [], 0⟩ : Rd), srcS p)))).1 MX.out HL.out).mono ?_
     rintro e wz ⟨v5, rfl, h5⟩
     go_wp2_with fail
     go_ret
     rw [EF.out] at h5
     rw [EE.out]
     exact ⟨v5, rfl, h5⟩
end
structure Av where
 ifs : Value
 nat : Value
 stat : Value
 ranges : Value
 lsRed : Value
 dvRed : Value
 nb : Value
 net : Value
 ag : Value
 cd : Value
 pvRed : Value
 lists : Value
 maps : Value
 acls : Value
 ifp : Value
 clp : Value
 lm : List (Lm PRule)
 mm : List (Lm Cl)
 am : List (Lm Ru)
def AlC (a : Al) (v : Av) : Array Value := #[strV a.name, .int .i64 a.asn, v.ifs, .slice none 0 0, .slice none 0 0, .slice none 0 0, v.nat, v.stat, .bool a.lsOn, .int .i64 a.lsAdmin, v.ranges, v.lsRed, .bool a.dvOn, .int .i64 a.dvAdmin, strV a.dvIn, strV a.dvOut, v.dvRed, .bool a.pvOn, .int .i64 a.ext, .int .i64 a.int, v.nb, v.net, v.ag, v.cd, v.pvRed, v.lists, v.maps, v.acls, .int .i64 a.block, v.ifp, v.clp]
def rowsP (v : Av) : List Orow := zAq 135 3 96 5 PRule.C v.lists v.lm
def rowsM (v : Av) : List Orow := zAq 137 3 101 7 Cl.C v.maps v.mm
def rowsA (v : Av) : List Orow := zAq 139 3 110 10 Ru.C v.acls v.am
def AlR (a : Al) (v : Av) : List Orow :=
 rowE 68 12 If.C v.ifs a.ifs :: rowE 70 9 Tr.C v.nat a.nat :: rowE 74 7 Sr.C v.stat a.stat :: rowE 113 3 AR.C v.ranges a.ranges :: rowE 151 5 Rd.C v.lsRed a.lsRed :: rowE 151 5 Rd.C v.dvRed a.dvRed :: rowE 115 4 Nb.C v.nb a.nb :: rowE 72 2 Pf.C v.net a.net :: rowE 117 3 Ag.C v.ag a.ag :: rowE 119 5 Cd.C v.cd a.cd :: rowE 151 5 Rd.C v.pvRed a.pvRed :: (rowsP v ++ rowsM v ++ rowsA v)
def RA (g b B : Nat) (w0 : World) (a : Al) (p : Ps) (w : World) : Prop :=
 ∃ v : Av, RS 88 131 g b B w0 (AlC a v) (AlR a v) p w ∧ (a.lists = v.lm.map Lm.ls ∧ a.maps = v.mm.map Lm.ls ∧ a.acls = v.am.map Lm.ls) ∧
  (a.block = 1 → ∃ gg cap, v.ifs = .slice (some ⟨gg, 0, none⟩) a.ifs.length cap ∧ v.ifp = .pointer (some ⟨gg, a.iface * 12, none⟩)) ∧
  (a.block = 2 → ∃ m gg cap, v.mm[a.clause.1]? = some m ∧ m.iv = .slice (some ⟨gg, 0, none⟩) m.items.length cap ∧ v.clp = .pointer (some ⟨gg, a.clause.2 * 7, none⟩))
def APost (g b B : Nat) (w0 : World) (a : Al) (p : Ps) (e : Ending) (w : World) : Prop := e = .returned (.tuple #[]) ∧ RA g b B w0 a p w
theorem zAv (w : World) : Below w.heap.size w w.drew := ⟨rfl, rfl, rfl, Nat.le_refl _, fun _ _ => rfl⟩
section
variable {E T : TypeId} {g b B : Nat} {w0 w : World} {cs : Array Value} {rs : List Orow} {p : Ps}
theorem RS.some (h : RS E T g b B w0 cs rs p w) {j : Nat} (hj : j < cs.size) : ∃ v, w.cell? ⟨g, j, none⟩ = .some v := ⟨cs[j], by rw [h.cell, Array.getElem?_eq_getElem hj]⟩
theorem RS.form {α : Type} {pre post : List Orow} {Te : TypeId} {n : Nat} {cells : α → Array Value} {v : Value} {l : List α} (h : RS E T g b B w0 cs (pre ++ rowE Te n cells v l :: post) p w) : ∃ A k c, v = .slice A k c := by
 rcases h.at.2 with ⟨e, -⟩ | ⟨g, cap, cur, e, -⟩
 ·exact ⟨_, _, _, e⟩
 ·exact ⟨_, _, _, e⟩
end
theorem zIb (g b B : Nat) (w0 : World) (a : Al) (word : List UInt8) (no : Bool) (p : Ps) (w : World) (h : RA g b B w0 a p w) (hk : AlOk 1000000000 a) (he : EnvA B w0) (hs : p.short) :
  Calls Tryz.prog 96 #[.pointer (some ⟨g, 8, none⟩), .string (str word), .bool no, .pointer (some ⟨b, 0, none⟩)] w (APost g b B w0 (lsCmd word no a p).1 (lsCmd word no a p).2) := by
 obtain ⟨v, h, hl, hI, hC⟩ := h
 have H := hid h
 have HE := hid he
 have HS := hid hs
 have HK := hid hk
 have HL := hid hl
 have HI := hid hI
 have HC := hid hC
 clear h he hs hk hl hI hC
 have q0 : ((str word).toList == [100, 105, 115, 116, 97, 110, 99, 101]) = (word == [100, 105, 115, 116, 97, 110, 99, 101]) := by rw [zAb]
 have q1 : ((str word).toList == [114, 97, 110, 103, 101]) = (word == [114, 97, 110, 103, 101]) := by rw [zAb]
 have q2 : ((str word).toList == [114, 101, 100, 105, 115, 116, 114, 105, 98, 117, 116, 101]) = (word == [114, 101, 100, 105, 115, 116, 114, 105, 98, 117, 116, 101]) := by rw [zAb]
 cases no with
 | true =>
  cases e0 : (word == [100, 105, 115, 116, 97, 110, 99, 101]) with
  | true =>
   rw [e0] at q0
   have e1 : (word == [114, 97, 110, 103, 101]) = false := by rw [eq_of_beq e0]; rfl
   rw [e1] at q1
   have e2 : (word == [114, 101, 100, 105, 115, 116, 114, 105, 98, 117, 116, 101]) = false := by rw [eq_of_beq e0]; rfl
   rw [e2] at q2
   have E : Hid (lsCmd word true a p = (a, p.fail)) := hid (by unfold lsCmd; rw [e0, e1, e2]; rfl)
   go_enter Tryz.func96, Tryz.ntmps96
   have fb := H.out.st.frz 1
   have cb := H.out.st.bad1
   go_wp2_with fail
   go_end0
   rw [E.out]
   exact ⟨rfl, v, H.out.bad, HL.out, HI.out, HC.out⟩
  | false =>
   rw [e0] at q0
   cases e1 : (word == [114, 97, 110, 103, 101]) with
   | true =>
    rw [e1] at q1
    have E : Hid (lsCmd word true a p = ({ a with ranges := dropL (fun y => decide (y.area = noV 0 255 p ∧ y.pa = (pxV (noS 0 255 p)).1 ∧ y.pl = (pxV (noS 0 255 p)).2)) a.ranges }, pxS (noS 0 255 p))) := hid (by unfold lsCmd; rw [e0, e1]; rfl)
    go_enter Tryz.func96, Tryz.ntmps96
    go_wp2_with fail
    refine (zAo b B p 0 255 _ H.out.st).mono ?_
    rintro e w1 ⟨rfl, h1, k1⟩
    have H1 := hid (H.out.word h1 k1)
    clear h1 k1
    go_wp2_with fail
    refine (zBw b B (noS 0 255 p) _ H1.out.st (H1.out.env HE.out) (zCb _ _ HS.out)).mono ?_
    rintro e w2 ⟨rfl, h2, k2⟩
    have H2 := hid (H1.out.word h2 k2)
    clear h2 k2
    go_wp2_with (refine zAe rfl _ _ _ rfl rfl (ds := AR.C ⟨noV 0 255 p, (pxV (noS 0 255 p)).1, (pxV (noS 0 255 p)).2⟩) rfl (HasC.new _ _ _) rfl Tryz.sizeAR (AR.one ⟨noV 0 255 p, (pxV (noS 0 255 p)).1, (pxV (noS 0 255 p)).2⟩) ?_; intro w3 hx hg; have H3 := hid (RL.start H2.out hx hg); clear hx hg; have cr : w3.cell? ⟨g, 10, none⟩ = .some v.ranges := H3.out.base.cell 10)
    refine (delAR (pre := (AlR a v).take 3) (post := (AlR a v).drop 4) a.ranges ⟨noV 0 255 p, (pxV (noS 0 255 p)).1, (pxV (noS 0 255 p)).2⟩ H3.out).mono ?_
    rintro e wz ⟨v5, rfl, h5⟩
    obtain ⟨A5, n5, d5, rfl⟩ := h5.form
    have H5 := hid h5
    clear h5
    obtain ⟨y10, c10⟩ := H5.out.some (j := 10) (show 10 < 31 from by decide)
    have fz := H5.out.frz
    go_wp2_with fail
    go_end0
    rw [E.out]
    exact ⟨rfl, { v with ranges := .slice A5 n5 d5 }, H5.out.put 10 _ rfl, HL.out, HI.out, HC.out⟩
   | false =>
    rw [e1] at q1
    cases e2 : (word == [114, 101, 100, 105, 115, 116, 114, 105, 98, 117, 116, 101]) with
    | true =>
     rw [e2] at q2
     have E : Hid (lsCmd word true a p = ({ a with lsRed := (zCm a.lsRed 3 true p).1 }, (zCm a.lsRed 3 true p).2)) := hid (by unfold lsCmd; rw [e0, e1, e2]; rfl)
     go_enter Tryz.func96, Tryz.ntmps96
     have cr : w.cell? ⟨g, 11, none⟩ = .some v.lsRed := H.out.cell 11
     go_wp2_with fail
     refine (zGn (pre := (AlR a v).take 4) (post := (AlR a v).drop 5) v.lsRed a.lsRed true p _ H.out HE.out HS.out HK.out.lsRed.1).mono ?_
     rintro e wz ⟨v5, rfl, h5⟩
     obtain ⟨A5, n5, d5, rfl⟩ := h5.form
     have H5 := hid h5
     clear h5
     obtain ⟨y11, c11⟩ := H5.out.some (j := 11) (show 11 < 31 from by decide)
     have fz := H5.out.frz
     go_wp2_with fail
     go_end0
     rw [E.out]
     exact ⟨rfl, { v with lsRed := .slice A5 n5 d5 }, H5.out.put 11 _ rfl, HL.out, HI.out, HC.out⟩
    | false =>
     rw [e2] at q2
     have E : Hid (lsCmd word true a p = (a, p.fail)) := hid (by unfold lsCmd; rw [e0, e1, e2]; rfl)
     go_enter Tryz.func96, Tryz.ntmps96
     have fb := H.out.st.frz 1
     have cb := H.out.st.bad1
     go_wp2_with fail
     go_end0
     rw [E.out]
     exact ⟨rfl, v, H.out.bad, HL.out, HI.out, HC.out⟩
 | false =>
  cases e0 : (word == [100, 105, 115, 116, 97, 110, 99, 101]) with
  | true =>
   rw [e0] at q0
   have E : Hid (lsCmd word false a p = ({ a with lsAdmin := noV 1 255 p }, noS 1 255 p)) := hid (by unfold lsCmd; rw [e0]; rfl)
   go_enter Tryz.func96, Tryz.ntmps96
   go_wp2_with fail
   refine (zAo b B p 1 255 _ H.out.st).mono ?_
   rintro e w1 ⟨rfl, h1, k1⟩
   have H1 := hid (H.out.word h1 k1)
   clear h1 k1
   obtain ⟨y9, c9⟩ := H1.out.some (j := 9) (show 9 < 31 from by decide)
   have fz := H1.out.frz
   go_wp2_with fail
   go_end0
   rw [E.out]
   exact ⟨rfl, v, (H1.out.put 9 _ rfl), HL.out, HI.out, HC.out⟩
  | false =>
   rw [e0] at q0
   cases e1 : (word == [114, 97, 110, 103, 101]) with
   | true =>
    rw [e1] at q1
    have E : Hid (lsCmd word false a p = ({ a with ranges := replL (fun y => decide (y.area = noV 0 255 p ∧ y.pa = (pxV (noS 0 255 p)).1 ∧ y.pl = (pxV (noS 0 255 p)).2)) ⟨noV 0 255 p, (pxV (noS 0 255 p)).1, (pxV (noS 0 255 p)).2⟩ a.ranges }, pxS (noS 0 255 p))) := hid (by unfold lsCmd; rw [e0, e1]; rfl)
    go_enter Tryz.func96, Tryz.ntmps96
    go_wp2_with fail
    refine (zAo b B p 0 255 _ H.out.st).mono ?_
    rintro e w1 ⟨rfl, h1, k1⟩
    have H1 := hid (H.out.word h1 k1)
    clear h1 k1
    go_wp2_with fail
    refine (zBw b B (noS 0 255 p) _ H1.out.st (H1.out.env HE.out) (zCb _ _ HS.out)).mono ?_
    rintro e w2 ⟨rfl, h2, k2⟩
    have H2 := hid (H1.out.word h2 k2)
    clear h2 k2
    go_wp2_with (refine zAe rfl _ _ _ rfl rfl (ds := AR.C ⟨noV 0 255 p, (pxV (noS 0 255 p)).1, (pxV (noS 0 255 p)).2⟩) rfl (HasC.new _ _ _) rfl Tryz.sizeAR (AR.one ⟨noV 0 255 p, (pxV (noS 0 255 p)).1, (pxV (noS 0 255 p)).2⟩) ?_; intro w3 hx hg; have H3 := hid (RL.start H2.out hx hg); clear hx hg; have cr : w3.cell? ⟨g, 10, none⟩ = .some v.ranges := H3.out.base.cell 10)
    have cx0 : w3.cell? ⟨w2.heap.size, 0, none⟩ = .some (.int .i64 (noV 0 255 p)) := H3.out.loc.cell 0
    have cx1 : w3.cell? ⟨w2.heap.size, 1, none⟩ = .some (.int .u32 ((pxV (noS 0 255 p)).1 : Int)) := H3.out.loc.cell 1
    have cx2 : w3.cell? ⟨w2.heap.size, 2, none⟩ = .some (.int .i64 (pxV (noS 0 255 p)).2) := H3.out.loc.cell 2
    have HD := hid (H3.out.keep (zAv w3))
    go_region_law (go_simp; go_at_call 151; refine (repAR (pre := (AlR a v).take 3) (post := (AlR a v).drop 4) a.ranges ⟨noV 0 255 p, (pxV (noS 0 255 p)).1, (pxV (noS 0 255 p)).2⟩ HD.out HK.out.ranges.1).mono ?_; rintro e wz ⟨v5, rfl, h5⟩; obtain ⟨A5, n5, d5, rfl⟩ := h5.form; have H5 := hid h5; clear h5; obtain ⟨y10, c10⟩ := H5.out.some (j := 10) (show 10 < 31 from by decide); have fz := H5.out.frz)
    all_goals
     go_wp2_with fail
     go_end0
     rw [E.out]
     exact ⟨rfl, { v with ranges := .slice A5 n5 d5 }, H5.out.put 10 _ rfl, HL.out, HI.out, HC.out⟩
   | false =>
    rw [e1] at q1
    cases e2 : (word == [114, 101, 100, 105, 115, 116, 114, 105, 98, 117, 116, 101]) with
    | true =>
     rw [e2] at q2
     have E : Hid (lsCmd word false a p = ({ a with lsRed := (zCm a.lsRed 3 false p).1 }, (zCm a.lsRed 3 false p).2)) := hid (by unfold lsCmd; rw [e0, e1, e2]; rfl)
     go_enter Tryz.func96, Tryz.ntmps96
     have cr : w.cell? ⟨g, 11, none⟩ = .some v.lsRed := H.out.cell 11
     go_wp2_with fail
     refine (zGn (pre := (AlR a v).take 4) (post := (AlR a v).drop 5) v.lsRed a.lsRed false p _ H.out HE.out HS.out HK.out.lsRed.1).mono ?_
     rintro e wz ⟨v5, rfl, h5⟩
     obtain ⟨A5, n5, d5, rfl⟩ := h5.form
     have H5 := hid h5
     clear h5
     obtain ⟨y11, c11⟩ := H5.out.some (j := 11) (show 11 < 31 from by decide)
     have fz := H5.out.frz
     go_wp2_with fail
     go_end0
     rw [E.out]
     exact ⟨rfl, { v with lsRed := .slice A5 n5 d5 }, H5.out.put 11 _ rfl, HL.out, HI.out, HC.out⟩
    | false =>
     rw [e2] at q2
     have E : Hid (lsCmd word false a p = (a, p.fail)) := hid (by unfold lsCmd; rw [e0, e1, e2]; rfl)
     go_enter Tryz.func96, Tryz.ntmps96
     have fb := H.out.st.frz 1
     have cb := H.out.st.bad1
     go_wp2_with fail
     go_end0
     rw [E.out]
     exact ⟨rfl, v, H.out.bad, HL.out, HI.out, HC.out⟩
theorem zIp (g b B : Nat) (w0 : World) (a : Al) (word : List UInt8) (no : Bool) (p : Ps) (w : World) (h : RA g b B w0 a p w) (hk : AlOk 1000000000 a) (he : EnvA B w0) (hs : p.short) :
  Calls Tryz.prog 97 #[.pointer (some ⟨g, 12, none⟩), .string (str word), .bool no, .pointer (some ⟨b, 0, none⟩)] w (APost g b B w0 (dvCmd word no a p).1 (dvCmd word no a p).2) := by
 obtain ⟨v, h, hl, hI, hC⟩ := h
 have H := hid h
 have HE := hid he
 have HS := hid hs
 have HK := hid hk
 have HL := hid hl
 have HI := hid hI
 have HC := hid hC
 clear h he hs hk hl hI hC
 have q0 : ((str word).toList == [100, 105, 115, 116, 97, 110, 99, 101]) = (word == [100, 105, 115, 116, 97, 110, 99, 101]) := by rw [zAb]
 have q1 : ((str word).toList == [102, 105, 108, 116, 101, 114]) = (word == [102, 105, 108, 116, 101, 114]) := by rw [zAb]
 have q2 : ((str word).toList == [114, 101, 100, 105, 115, 116, 114, 105, 98, 117, 116, 101]) = (word == [114, 101, 100, 105, 115, 116, 114, 105, 98, 117, 116, 101]) := by rw [zAb]
 cases no with
 | true =>
  cases e0 : (word == [100, 105, 115, 116, 97, 110, 99, 101]) with
  | true =>
   rw [e0] at q0
   have e1 : (word == [102, 105, 108, 116, 101, 114]) = false := by rw [eq_of_beq e0]; rfl
   rw [e1] at q1
   have e2 : (word == [114, 101, 100, 105, 115, 116, 114, 105, 98, 117, 116, 101]) = false := by rw [eq_of_beq e0]; rfl
   rw [e2] at q2
   have E : Hid (dvCmd word true a p = (a, p.fail)) := hid (by unfold dvCmd; rw [e0, e1, e2]; rfl)
   go_enter Tryz.func97, Tryz.ntmps97
   have fb := H.out.st.frz 1
   have cb := H.out.st.bad1
   go_wp2_with fail
   go_end0
   rw [E.out]
   exact ⟨rfl, v, H.out.bad, HL.out, HI.out, HC.out⟩
  | false =>
   rw [e0] at q0
   cases e1 : (word == [102, 105, 108, 116, 101, 114]) with
   | true =>
    rw [e1] at q1
    have E : Hid (dvCmd word true a p = ({ a with dvIn := [], dvOut := [] }, p)) := hid (by unfold dvCmd; rw [e0, e1]; rfl)
    go_enter Tryz.func97, Tryz.ntmps97
    obtain ⟨y14, c14⟩ := H.out.some (j := 14) (show 14 < 31 from by decide)
    obtain ⟨y15, c15⟩ := H.out.some (j := 15) (show 15 < 31 from by decide)
    have fz := H.out.frz
    go_wp2_with fail
    go_end0
    rw [E.out]
    exact ⟨rfl, v, ((H.out.put 14 _ rfl).put 15 _ rfl), HL.out, HI.out, HC.out⟩
   | false =>
    rw [e1] at q1
    cases e2 : (word == [114, 101, 100, 105, 115, 116, 114, 105, 98, 117, 116, 101]) with
    | true =>
     rw [e2] at q2
     have E : Hid (dvCmd word true a p = ({ a with dvRed := (zCm a.dvRed 4 true p).1 }, (zCm a.dvRed 4 true p).2)) := hid (by unfold dvCmd; rw [e0, e1, e2]; rfl)
     go_enter Tryz.func97, Tryz.ntmps97
     have cr : w.cell? ⟨g, 16, none⟩ = .some v.dvRed := H.out.cell 16
     go_wp2_with fail
     refine (zGh (pre := (AlR a v).take 5) (post := (AlR a v).drop 6) v.dvRed a.dvRed true p _ H.out HE.out HS.out HK.out.dvRed.1).mono ?_
     rintro e wz ⟨v5, rfl, h5⟩
     obtain ⟨A5, n5, d5, rfl⟩ := h5.form
     have H5 := hid h5
     clear h5
     obtain ⟨y16, c16⟩ := H5.out.some (j := 16) (show 16 < 31 from by decide)
     have fz := H5.out.frz
     go_wp2_with fail
     go_end0
     rw [E.out]
     exact ⟨rfl, { v with dvRed := .slice A5 n5 d5 }, H5.out.put 16 _ rfl, HL.out, HI.out, HC.out⟩
    | false =>
     rw [e2] at q2
     have E : Hid (dvCmd word true a p = (a, p.fail)) := hid (by unfold dvCmd; rw [e0, e1, e2]; rfl)
     go_enter Tryz.func97, Tryz.ntmps97
     have fb := H.out.st.frz 1
     have cb := H.out.st.bad1
     go_wp2_with fail
     go_end0
     rw [E.out]
     exact ⟨rfl, v, H.out.bad, HL.out, HI.out, HC.out⟩
 | false =>
  cases e0 : (word == [100, 105, 115, 116, 97, 110, 99, 101]) with
  | true =>
   rw [e0] at q0
   have E : Hid (dvCmd word false a p = ({ a with dvAdmin := noV 1 255 p }, noS 1 255 p)) := hid (by unfold dvCmd; rw [e0]; rfl)
   go_enter Tryz.func97, Tryz.ntmps97
   go_wp2_with fail
   refine (zAo b B p 1 255 _ H.out.st).mono ?_
   rintro e w1 ⟨rfl, h1, k1⟩
   have H1 := hid (H.out.word h1 k1)
   clear h1 k1
   obtain ⟨y13, c13⟩ := H1.out.some (j := 13) (show 13 < 31 from by decide)
   have fz := H1.out.frz
   go_wp2_with fail
   go_end0
   rw [E.out]
   exact ⟨rfl, v, (H1.out.put 13 _ rfl), HL.out, HI.out, HC.out⟩
  | false =>
   rw [e0] at q0
   cases e1 : (word == [102, 105, 108, 116, 101, 114]) with
   | true =>
    rw [e1] at q1
    cases c : chB [105, 110] [111, 117, 116] p with
    | true =>
     have E : Hid (dvCmd word false a p = ({ a with dvIn := nmV (chS [105, 110] [111, 117, 116] p) }, nmS (chS [105, 110] [111, 117, 116] p))) := hid (by unfold dvCmd; rw [e0, e1, c]; rfl)
     have CC := hid c
     clear c
     go_enter Tryz.func97, Tryz.ntmps97
     go_wp2_with fail
     refine (zBg b B p [105, 110] [111, 117, 116] _ H.out.st).mono ?_
     rintro e w1 ⟨rfl, h1, k1⟩
     have H1 := hid (H.out.word h1 k1)
     clear h1 k1
     rw [CC.out]
     go_wp2_with fail
     refine (zBb b B (chS [105, 110] [111, 117, 116] p) _ H1.out.st).mono ?_
     rintro e w2 ⟨rfl, h2, k2⟩
     have H2 := hid (H1.out.word h2 k2)
     clear h2 k2
     unfold strV
     obtain ⟨y14, c14⟩ := H2.out.some (j := 14) (show 14 < 31 from by decide)
     have fz := H2.out.frz
     go_wp2_with fail
     go_end0
     rw [E.out]
     exact ⟨rfl, v, (H2.out.put 14 _ rfl), HL.out, HI.out, HC.out⟩
    | false =>
     have E : Hid (dvCmd word false a p = ({ a with dvOut := nmV (chS [105, 110] [111, 117, 116] p) }, nmS (chS [105, 110] [111, 117, 116] p))) := hid (by unfold dvCmd; rw [e0, e1, c]; rfl)
     have CC := hid c
     clear c
     go_enter Tryz.func97, Tryz.ntmps97
     go_wp2_with fail
     refine (zBg b B p [105, 110] [111, 117, 116] _ H.out.st).mono ?_
     rintro e w1 ⟨rfl, h1, k1⟩
     have H1 := hid (H.out.word h1 k1)
     clear h1 k1
     rw [CC.out]
     go_wp2_with fail
     refine (zBb b B (chS [105, 110] [111, 117, 116] p) _ H1.out.st).mono ?_
     rintro e w2 ⟨rfl, h2, k2⟩
     have H2 := hid (H1.out.word h2 k2)
     clear h2 k2
     unfold strV
     obtain ⟨y15, c15⟩ := H2.out.some (j := 15) (show 15 < 31 from by decide)
     have fz := H2.out.frz
     go_wp2_with fail
     go_end0
     rw [E.out]
     exact ⟨rfl, v, (H2.out.put 15 _ rfl), HL.out, HI.out, HC.out⟩
   | false =>
    rw [e1] at q1
    cases e2 : (word == [114, 101, 100, 105, 115, 116, 114, 105, 98, 117, 116, 101]) with
    | true =>
     rw [e2] at q2
     have E : Hid (dvCmd word false a p = ({ a with dvRed := (zCm a.dvRed 4 false p).1 }, (zCm a.dvRed 4 false p).2)) := hid (by unfold dvCmd; rw [e0, e1, e2]; rfl)
     go_enter Tryz.func97, Tryz.ntmps97
     have cr : w.cell? ⟨g, 16, none⟩ = .some v.dvRed := H.out.cell 16
     go_wp2_with fail
     refine (zGh (pre := (AlR a v).take 5) (post := (AlR a v).drop 6) v.dvRed a.dvRed false p _ H.out HE.out HS.out HK.out.dvRed.1).mono ?_
     rintro e wz ⟨v5, rfl, h5⟩
     obtain ⟨A5, n5, d5, rfl⟩ := h5.form
     have H5 := hid h5
     clear h5
     obtain ⟨y16, c16⟩ := H5.out.some (j := 16) (show 16 < 31 from by decide)
     have fz := H5.out.frz
     go_wp2_with fail
     go_end0
     rw [E.out]
     exact ⟨rfl, { v with dvRed := .slice A5 n5 d5 }, H5.out.put 16 _ rfl, HL.out, HI.out, HC.out⟩
    | false =>
     rw [e2] at q2
     have E : Hid (dvCmd word false a p = (a, p.fail)) := hid (by unfold dvCmd; rw [e0, e1, e2]; rfl)
     go_enter Tryz.func97, Tryz.ntmps97
     have fb := H.out.st.frz 1
     have cb := H.out.st.bad1
     go_wp2_with fail
     go_end0
     rw [E.out]
     exact ⟨rfl, v, H.out.bad, HL.out, HI.out, HC.out⟩
end Go.Proofs.YtoceoaiokkbjeaaGreatDoor
