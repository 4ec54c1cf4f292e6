/- The walk of pathCommand. Conditions: the reader's lists are short (AlOk). -/
import Derived.Test.YtoceoaiokkbjeaaGreatDoorWw
set_option maxRecDepth 8000
namespace Go.Proofs.YtoceoaiokkbjeaaGreatDoor
open Lib (hid)
open Go.RowKit
set_option maxHeartbeats 4000000 in
theorem pathCommand_any (g b B : Nat) (w0 : World) (a : Al) (word : List UInt8) (no : Bool) (p : Ps) (w : World) (h : RA g b B w0 a p w) (hk : AlOk 1000000000 a) (he : EnvA B w0) (hs : p.short) :
  Calls Tryz.prog 98 #[.pointer (some ⟨g, 17, none⟩), .string (str word), .bool no, .pointer (some ⟨b, 0, none⟩)] w (APost g b B w0 (pvCmd word no a p).1 (pvCmd word no a p).2) := by
 obtain ⟨v, h, hl, hI, hC⟩ := h
 have H := hid h
 have HE := hid he
 have HS := hid hs
 have HK := hid hk
 have HL := hid hl
 have HI := hid hI
 have HC := hid hC
 clear h he hs hk hl hI hC
 have q0 : ((str word).toList == [100, 105, 115, 116, 97, 110, 99, 101]) = (word == [100, 105, 115, 116, 97, 110, 99, 101]) := by rw [zAb]
 have q1 : ((str word).toList == [110, 101, 105, 103, 104, 98, 111, 114]) = (word == [110, 101, 105, 103, 104, 98, 111, 114]) := by rw [zAb]
 have q2 : ((str word).toList == [110, 101, 116, 119, 111, 114, 107]) = (word == [110, 101, 116, 119, 111, 114, 107]) := by rw [zAb]
 have q3 : ((str word).toList == [97, 103, 103, 114, 101, 103, 97, 116, 101]) = (word == [97, 103, 103, 114, 101, 103, 97, 116, 101]) := by rw [zAb]
 have q4 : ((str word).toList == [111, 114, 105, 103, 105, 110, 97, 116, 101]) = (word == [111, 114, 105, 103, 105, 110, 97, 116, 101]) := by rw [zAb]
 have q5 : ((str word).toList == [114, 101, 100, 105, 115, 116, 114, 105, 98, 117, 116, 101]) = (word == [114, 101, 100, 105, 115, 116, 114, 105, 98, 117, 116, 101]) := by rw [zAb]
 cases no with
 | true =>
  cases e0 : (word == [100, 105, 115, 116, 97, 110, 99, 101]) with
  | true =>
   rw [e0] at q0
   have e1 : (word == [110, 101, 105, 103, 104, 98, 111, 114]) = false := by rw [eq_of_beq e0]; rfl
   rw [e1] at q1
   have e2 : (word == [110, 101, 116, 119, 111, 114, 107]) = false := by rw [eq_of_beq e0]; rfl
   rw [e2] at q2
   have e3 : (word == [97, 103, 103, 114, 101, 103, 97, 116, 101]) = false := by rw [eq_of_beq e0]; rfl
   rw [e3] at q3
   have e4 : (word == [111, 114, 105, 103, 105, 110, 97, 116, 101]) = false := by rw [eq_of_beq e0]; rfl
   rw [e4] at q4
   have e5 : (word == [114, 101, 100, 105, 115, 116, 114, 105, 98, 117, 116, 101]) = false := by rw [eq_of_beq e0]; rfl
   rw [e5] at q5
   have E : Hid (pvCmd word true a p = (a, p.fail)) := hid (by unfold pvCmd; rw [e0, e1, e2, e3, e4, e5]; rfl)
   go_enter Tryz.func98, Tryz.ntmps98
   have fb := H.out.st.frz 1
   have cb := H.out.st.bad1
   go_wp2_with fail
   go_end0
   rw [E.out]
   exact ⟨rfl, v, H.out.bad, HL.out, HI.out, HC.out⟩
  | false =>
   rw [e0] at q0
   cases e1 : (word == [110, 101, 105, 103, 104, 98, 111, 114]) with
   | true =>
    rw [e1] at q1
    have E : Hid (pvCmd word true a p = ({ a with nb := (nbCmd a.nb true p).1 }, (nbCmd a.nb true p).2)) := hid (by unfold pvCmd; rw [e0, e1]; rfl)
    go_enter Tryz.func98, Tryz.ntmps98
    have cr : w.cell? ⟨g, 20, none⟩ = .some v.nb := H.out.cell 20
    go_wp2_with fail
    refine (zKn (pre := (AlR a v).take 6) (post := (AlR a v).drop 7) v.nb a.nb true p _ H.out HE.out HS.out HK.out.nb.1).mono ?_
    rintro e wz ⟨v5, rfl, h5⟩
    obtain ⟨A5, n5, d5, rfl⟩ := h5.form
    have H5 := hid h5
    clear h5
    obtain ⟨y20, c20⟩ := H5.out.some (j := 20) (show 20 < 31 from by decide)
    have fz := H5.out.frz
    go_wp2_with fail
    go_end0
    rw [E.out]
    exact ⟨rfl, { v with nb := .slice A5 n5 d5 }, H5.out.put 20 _ rfl, HL.out, HI.out, HC.out⟩
   | false =>
    rw [e1] at q1
    cases e2 : (word == [110, 101, 116, 119, 111, 114, 107]) with
    | true =>
     rw [e2] at q2
     have E : Hid (pvCmd word true a p = ({ a with net := dropL (fun y => decide (y.pa = (pxV p).1 ∧ y.pl = (pxV p).2)) a.net }, pxS p)) := hid (by unfold pvCmd; rw [e0, e1, e2]; rfl)
     go_enter Tryz.func98, Tryz.ntmps98
     go_wp2_with fail
     refine (zBw b B p _ H.out.st (H.out.env HE.out) HS.out).mono ?_
     rintro e w1 ⟨rfl, h1, k1⟩
     have H1 := hid (H.out.word h1 k1)
     clear h1 k1
     go_wp2_with (refine zAe rfl _ _ _ rfl rfl (ds := Pf.C ⟨(pxV p).1, (pxV p).2⟩) rfl (HasC.new _ _ _) rfl Tryz.sizePf (Pf.one ⟨(pxV p).1, (pxV p).2⟩) ?_; intro w2 hx hg; have H2 := hid (RL.start H1.out hx hg); clear hx hg; have cr : w2.cell? ⟨g, 21, none⟩ = .some v.net := H2.out.base.cell 21)
     refine (delNet (pre := (AlR a v).take 7) (post := (AlR a v).drop 8) a.net ⟨(pxV p).1, (pxV p).2⟩ H2.out).mono ?_
     rintro e wz ⟨v5, rfl, h5⟩
     obtain ⟨A5, n5, d5, rfl⟩ := h5.form
     have H5 := hid h5
     clear h5
     obtain ⟨y21, c21⟩ := H5.out.some (j := 21) (show 21 < 31 from by decide)
     have fz := H5.out.frz
     go_wp2_with fail
     go_end0
     rw [E.out]
     exact ⟨rfl, { v with net := .slice A5 n5 d5 }, H5.out.put 21 _ rfl, HL.out, HI.out, HC.out⟩
    | false =>
     rw [e2] at q2
     cases e3 : (word == [97, 103, 103, 114, 101, 103, 97, 116, 101]) with
     | true =>
      rw [e3] at q3
      have E : Hid (pvCmd word true a p = ({ a with ag := dropL (fun y => decide (y.pa = (pxV p).1 ∧ y.pl = (pxV p).2)) a.ag }, pxS p)) := hid (by unfold pvCmd; rw [e0, e1, e2, e3]; rfl)
      go_enter Tryz.func98, Tryz.ntmps98
      go_wp2_with fail
      refine (zBw b B p _ H.out.st (H.out.env HE.out) HS.out).mono ?_
      rintro e w1 ⟨rfl, h1, k1⟩
      have H1 := hid (H.out.word h1 k1)
      clear h1 k1
      go_wp2_with (refine zAe rfl _ _ _ rfl rfl (ds := Ag.C ⟨(pxV p).1, (pxV p).2, false⟩) rfl (HasC.new _ _ _) rfl Tryz.sizeAg (Ag.one ⟨(pxV p).1, (pxV p).2, false⟩) ?_; intro w2 hx hg; have H2 := hid (RL.start H1.out hx hg); clear hx hg; have cr : w2.cell? ⟨g, 22, none⟩ = .some v.ag := H2.out.base.cell 22)
      refine (delAg (pre := (AlR a v).take 8) (post := (AlR a v).drop 9) a.ag ⟨(pxV p).1, (pxV p).2, false⟩ H2.out).mono ?_
      rintro e wz ⟨v5, rfl, h5⟩
      obtain ⟨A5, n5, d5, rfl⟩ := h5.form
      have H5 := hid h5
      clear h5
      obtain ⟨y22, c22⟩ := H5.out.some (j := 22) (show 22 < 31 from by decide)
      have fz := H5.out.frz
      go_wp2_with fail
      go_end0
      rw [E.out]
      exact ⟨rfl, { v with ag := .slice A5 n5 d5 }, H5.out.put 22 _ rfl, HL.out, HI.out, HC.out⟩
     | false =>
      rw [e3] at q3
      cases e4 : (word == [111, 114, 105, 103, 105, 110, 97, 116, 101]) with
      | true =>
       rw [e4] at q4
       have E : Hid (pvCmd word true a p = ({ a with cd := (cdCmd a.cd true p).1 }, (cdCmd a.cd true p).2)) := hid (by unfold pvCmd; rw [e0, e1, e2, e3, e4]; rfl)
       go_enter Tryz.func98, Tryz.ntmps98
       have cr : w.cell? ⟨g, 23, none⟩ = .some v.cd := H.out.cell 23
       go_wp2_with fail
       refine (zIz (pre := (AlR a v).take 9) (post := (AlR a v).drop 10) v.cd a.cd true p _ H.out HE.out HS.out HK.out.cd.1).mono ?_
       rintro e wz ⟨v5, rfl, h5⟩
       obtain ⟨A5, n5, d5, rfl⟩ := h5.form
       have H5 := hid h5
       clear h5
       obtain ⟨y23, c23⟩ := H5.out.some (j := 23) (show 23 < 31 from by decide)
       have fz := H5.out.frz
       go_wp2_with fail
       go_end0
       rw [E.out]
       exact ⟨rfl, { v with cd := .slice A5 n5 d5 }, H5.out.put 23 _ rfl, HL.out, HI.out, HC.out⟩
      | false =>
       rw [e4] at q4
       cases e5 : (word == [114, 101, 100, 105, 115, 116, 114, 105, 98, 117, 116, 101]) with
       | true =>
        rw [e5] at q5
        have E : Hid (pvCmd word true a p = ({ a with pvRed := (zCm a.pvRed 5 true p).1 }, (zCm a.pvRed 5 true p).2)) := hid (by unfold pvCmd; rw [e0, e1, e2, e3, e4, e5]; rfl)
        go_enter Tryz.func98, Tryz.ntmps98
        have cr : w.cell? ⟨g, 24, none⟩ = .some v.pvRed := H.out.cell 24
        go_wp2_with fail
        refine (zGo (pre := (AlR a v).take 10) (post := (AlR a v).drop 11) v.pvRed a.pvRed true p _ H.out HE.out HS.out HK.out.pvRed.1).mono ?_
        rintro e wz ⟨v5, rfl, h5⟩
        obtain ⟨A5, n5, d5, rfl⟩ := h5.form
        have H5 := hid h5
        clear h5
        obtain ⟨y24, c24⟩ := H5.out.some (j := 24) (show 24 < 31 from by decide)
        have fz := H5.out.frz
        go_wp2_with fail
        go_end0
        rw [E.out]
        exact ⟨rfl, { v with pvRed := .slice A5 n5 d5 }, H5.out.put 24 _ rfl, HL.out, HI.out, HC.out⟩
       | false =>
        rw [e5] at q5
        have E : Hid (pvCmd word true a p = (a, p.fail)) := hid (by unfold pvCmd; rw [e0, e1, e2, e3, e4, e5]; rfl)
        go_enter Tryz.func98, Tryz.ntmps98
        have fb := H.out.st.frz 1
        have cb := H.out.st.bad1
        go_wp2_with fail
        go_end0
        rw [E.out]
        exact ⟨rfl, v, H.out.bad, HL.out, HI.out, HC.out⟩
 | false =>
  cases e0 : (word == [100, 105, 115, 116, 97, 110, 99, 101]) with
  | true =>
   rw [e0] at q0
   cases c : chB [101, 120, 116, 101, 114, 110, 97, 108] [105, 110, 116, 101, 114, 110, 97, 108] p with
   | true =>
    have E : Hid (pvCmd word false a p = ({ a with ext := noV 1 255 (chS [101, 120, 116, 101, 114, 110, 97, 108] [105, 110, 116, 101, 114, 110, 97, 108] p) }, noS 1 255 (chS [101, 120, 116, 101, 114, 110, 97, 108] [105, 110, 116, 101, 114, 110, 97, 108] p))) := hid (by unfold pvCmd; rw [e0, c]; rfl)
    have CC := hid c
    clear c
    go_enter Tryz.func98, Tryz.ntmps98
    go_wp2_with fail
    refine (zBg b B p [101, 120, 116, 101, 114, 110, 97, 108] [105, 110, 116, 101, 114, 110, 97, 108] _ H.out.st).mono ?_
    rintro e w1 ⟨rfl, h1, k1⟩
    have H1 := hid (H.out.word h1 k1)
    clear h1 k1
    rw [CC.out]
    go_wp2_with fail
    refine (zAo b B (chS [101, 120, 116, 101, 114, 110, 97, 108] [105, 110, 116, 101, 114, 110, 97, 108] p) 1 255 _ H1.out.st).mono ?_
    rintro e w2 ⟨rfl, h2, k2⟩
    have H2 := hid (H1.out.word h2 k2)
    clear h2 k2
    obtain ⟨y18, c18⟩ := H2.out.some (j := 18) (show 18 < 31 from by decide)
    have fz := H2.out.frz
    go_wp2_with fail
    go_end0
    rw [E.out]
    exact ⟨rfl, v, (H2.out.put 18 _ rfl), HL.out, HI.out, HC.out⟩
   | false =>
    have E : Hid (pvCmd word false a p = ({ a with int := noV 1 255 (chS [101, 120, 116, 101, 114, 110, 97, 108] [105, 110, 116, 101, 114, 110, 97, 108] p) }, noS 1 255 (chS [101, 120, 116, 101, 114, 110, 97, 108] [105, 110, 116, 101, 114, 110, 97, 108] p))) := hid (by unfold pvCmd; rw [e0, c]; rfl)
    have CC := hid c
    clear c
    go_enter Tryz.func98, Tryz.ntmps98
    go_wp2_with fail
    refine (zBg b B p [101, 120, 116, 101, 114, 110, 97, 108] [105, 110, 116, 101, 114, 110, 97, 108] _ H.out.st).mono ?_
    rintro e w1 ⟨rfl, h1, k1⟩
    have H1 := hid (H.out.word h1 k1)
    clear h1 k1
    rw [CC.out]
    go_wp2_with fail
    refine (zAo b B (chS [101, 120, 116, 101, 114, 110, 97, 108] [105, 110, 116, 101, 114, 110, 97, 108] p) 1 255 _ H1.out.st).mono ?_
    rintro e w2 ⟨rfl, h2, k2⟩
    have H2 := hid (H1.out.word h2 k2)
    clear h2 k2
    obtain ⟨y19, c19⟩ := H2.out.some (j := 19) (show 19 < 31 from by decide)
    have fz := H2.out.frz
    go_wp2_with fail
    go_end0
    rw [E.out]
    exact ⟨rfl, v, (H2.out.put 19 _ rfl), HL.out, HI.out, HC.out⟩
  | false =>
   rw [e0] at q0
   cases e1 : (word == [110, 101, 105, 103, 104, 98, 111, 114]) with
   | true =>
    rw [e1] at q1
    have E : Hid (pvCmd word false a p = ({ a with nb := (nbCmd a.nb false p).1 }, (nbCmd a.nb false p).2)) := hid (by unfold pvCmd; rw [e0, e1]; rfl)
    go_enter Tryz.func98, Tryz.ntmps98
    have cr : w.cell? ⟨g, 20, none⟩ = .some v.nb := H.out.cell 20
    go_wp2_with fail
    refine (zKn (pre := (AlR a v).take 6) (post := (AlR a v).drop 7) v.nb a.nb false p _ H.out HE.out HS.out HK.out.nb.1).mono ?_
    rintro e wz ⟨v5, rfl, h5⟩
    obtain ⟨A5, n5, d5, rfl⟩ := h5.form
    have H5 := hid h5
    clear h5
    obtain ⟨y20, c20⟩ := H5.out.some (j := 20) (show 20 < 31 from by decide)
    have fz := H5.out.frz
    go_wp2_with fail
    go_end0
    rw [E.out]
    exact ⟨rfl, { v with nb := .slice A5 n5 d5 }, H5.out.put 20 _ rfl, HL.out, HI.out, HC.out⟩
   | false =>
    rw [e1] at q1
    cases e2 : (word == [110, 101, 116, 119, 111, 114, 107]) with
    | true =>
     rw [e2] at q2
     have E : Hid (pvCmd word false a p = ({ a with net := replL (fun y => decide (y.pa = (pxV p).1 ∧ y.pl = (pxV p).2)) ⟨(pxV p).1, (pxV p).2⟩ a.net }, pxS p)) := hid (by unfold pvCmd; rw [e0, e1, e2]; rfl)
     go_enter Tryz.func98, Tryz.ntmps98
     go_wp2_with fail
     refine (zBw b B p _ H.out.st (H.out.env HE.out) HS.out).mono ?_
     rintro e w1 ⟨rfl, h1, k1⟩
     have H1 := hid (H.out.word h1 k1)
     clear h1 k1
     go_wp2_with (refine zAe rfl _ _ _ rfl rfl (ds := Pf.C ⟨(pxV p).1, (pxV p).2⟩) rfl (HasC.new _ _ _) rfl Tryz.sizePf (Pf.one ⟨(pxV p).1, (pxV p).2⟩) ?_; intro w2 hx hg; have H2 := hid (RL.start H1.out hx hg); clear hx hg; have cr : w2.cell? ⟨g, 21, none⟩ = .some v.net := H2.out.base.cell 21)
     have cx0 : w2.cell? ⟨w1.heap.size, 0, none⟩ = .some (.int .u32 ((pxV p).1 : Int)) := H2.out.loc.cell 0
     have cx1 : w2.cell? ⟨w1.heap.size, 1, none⟩ = .some (.int .i64 (pxV p).2) := H2.out.loc.cell 1
     have HD := hid (H2.out.keep (zAv w2))
     go_region_law (go_simp; go_at_call 156; refine (repNet (pre := (AlR a v).take 7) (post := (AlR a v).drop 8) a.net ⟨(pxV p).1, (pxV p).2⟩ HD.out HK.out.net.1).mono ?_; rintro e wz ⟨v5, rfl, h5⟩; obtain ⟨A5, n5, d5, rfl⟩ := h5.form; have H5 := hid h5; clear h5; obtain ⟨y21, c21⟩ := H5.out.some (j := 21) (show 21 < 31 from by decide); have fz := H5.out.frz)
     all_goals
      go_wp2_with fail
      go_end0
      rw [E.out]
      exact ⟨rfl, { v with net := .slice A5 n5 d5 }, H5.out.put 21 _ rfl, HL.out, HI.out, HC.out⟩
    | false =>
     rw [e2] at q2
     cases e3 : (word == [97, 103, 103, 114, 101, 103, 97, 116, 101]) with
     | true =>
      rw [e3] at q3
      have E : Hid (pvCmd word false a p = ({ a with ag := replL (fun y => decide (y.pa = (pxV p).1 ∧ y.pl = (pxV p).2)) ⟨(pxV p).1, (pxV p).2, isW [111, 110, 108, 121] (pxS p)⟩ a.ag }, optS [111, 110, 108, 121] (pxS p))) := hid (by unfold pvCmd; rw [e0, e1, e2, e3]; rfl)
      go_enter Tryz.func98, Tryz.ntmps98
      go_wp2_with fail
      refine (zBw b B p _ H.out.st (H.out.env HE.out) HS.out).mono ?_
      rintro e w1 ⟨rfl, h1, k1⟩
      have H1 := hid (H.out.word h1 k1)
      clear h1 k1
      go_wp2_with (refine zAe rfl _ _ _ rfl rfl (ds := Ag.C ⟨(pxV p).1, (pxV p).2, false⟩) rfl (HasC.new _ _ _) rfl Tryz.sizeAg (Ag.one ⟨(pxV p).1, (pxV p).2, false⟩) ?_; intro w2 hx hg; have H2 := hid (RL.start H1.out hx hg); clear hx hg)
      refine (zAl b B (pxS p) [111, 110, 108, 121] _ H2.out.base.st).mono ?_
      rintro e w3 ⟨rfl, h3, k3⟩
      have H3 := hid (H2.out.word h3 k3)
      clear h3 k3
      obtain ⟨y2, c2⟩ := H3.out.lsome (j := 2) (show 2 < 3 from by decide)
      have fz := H3.out.lfrz
      go_wp2_with fail
      have R3 := hid (H3.out.put (cl' := Ag.C ⟨(pxV p).1, (pxV p).2, isW [111, 110, 108, 121] (pxS p)⟩) 2 (.bool (isW [111, 110, 108, 121] (pxS p))) rfl)
      have cr : (w3.setCell ⟨w1.heap.size, 2, none⟩ (.bool (isW [111, 110, 108, 121] (pxS p)))).cell? ⟨g, 22, none⟩ = .some v.ag := R3.out.base.cell 22
      generalize w3.setCell ⟨w1.heap.size, 2, none⟩ (.bool (isW [111, 110, 108, 121] (pxS p))) = w4 at R3 cr ⊢
      have cx0 : w4.cell? ⟨w1.heap.size, 0, none⟩ = .some (.int .u32 ((pxV p).1 : Int)) := R3.out.loc.cell 0
      have cx1 : w4.cell? ⟨w1.heap.size, 1, none⟩ = .some (.int .i64 (pxV p).2) := R3.out.loc.cell 1
      have cx2 : w4.cell? ⟨w1.heap.size, 2, none⟩ = .some (.bool (isW [111, 110, 108, 121] (pxS p))) := R3.out.loc.cell 2
      have HD := hid (R3.out.keep (zAv w4))
      go_region_law (go_simp; go_at_call 159; refine (repAg (pre := (AlR a v).take 8) (post := (AlR a v).drop 9) a.ag ⟨(pxV p).1, (pxV p).2, isW [111, 110, 108, 121] (pxS p)⟩ HD.out HK.out.ag.1).mono ?_; rintro e wz ⟨v5, rfl, h5⟩; obtain ⟨A5, n5, d5, rfl⟩ := h5.form; have H5 := hid h5; clear h5; obtain ⟨y22, c22⟩ := H5.out.some (j := 22) (show 22 < 31 from by decide); have fz := H5.out.frz)
      all_goals
       go_wp2_with fail
       go_end0
       rw [E.out]
       exact ⟨rfl, { v with ag := .slice A5 n5 d5 }, H5.out.put 22 _ rfl, HL.out, HI.out, HC.out⟩
     | false =>
      rw [e3] at q3
      cases e4 : (word == [111, 114, 105, 103, 105, 110, 97, 116, 101]) with
      | true =>
       rw [e4] at q4
       have E : Hid (pvCmd word false a p = ({ a with cd := (cdCmd a.cd false p).1 }, (cdCmd a.cd false p).2)) := hid (by unfold pvCmd; rw [e0, e1, e2, e3, e4]; rfl)
       go_enter Tryz.func98, Tryz.ntmps98
       have cr : w.cell? ⟨g, 23, none⟩ = .some v.cd := H.out.cell 23
       go_wp2_with fail
       refine (zIz (pre := (AlR a v).take 9) (post := (AlR a v).drop 10) v.cd a.cd false p _ H.out HE.out HS.out HK.out.cd.1).mono ?_
       rintro e wz ⟨v5, rfl, h5⟩
       obtain ⟨A5, n5, d5, rfl⟩ := h5.form
       have H5 := hid h5
       clear h5
       obtain ⟨y23, c23⟩ := H5.out.some (j := 23) (show 23 < 31 from by decide)
       have fz := H5.out.frz
       go_wp2_with fail
       go_end0
       rw [E.out]
       exact ⟨rfl, { v with cd := .slice A5 n5 d5 }, H5.out.put 23 _ rfl, HL.out, HI.out, HC.out⟩
      | false =>
       rw [e4] at q4
       cases e5 : (word == [114, 101, 100, 105, 115, 116, 114, 105, 98, 117, 116, 101]) with
       | true =>
        rw [e5] at q5
        have E : Hid (pvCmd word false a p = ({ a with pvRed := (zCm a.pvRed 5 false p).1 }, (zCm a.pvRed 5 false p).2)) := hid (by unfold pvCmd; rw [e0, e1, e2, e3, e4, e5]; rfl)
        go_enter Tryz.func98, Tryz.ntmps98
        have cr : w.cell? ⟨g, 24, none⟩ = .some v.pvRed := H.out.cell 24
        go_wp2_with fail
        refine (zGo (pre := (AlR a v).take 10) (post := (AlR a v).drop 11) v.pvRed a.pvRed false p _ H.out HE.out HS.out HK.out.pvRed.1).mono ?_
        rintro e wz ⟨v5, rfl, h5⟩
        obtain ⟨A5, n5, d5, rfl⟩ := h5.form
        have H5 := hid h5
        clear h5
        obtain ⟨y24, c24⟩ := H5.out.some (j := 24) (show 24 < 31 from by decide)
        have fz := H5.out.frz
        go_wp2_with fail
        go_end0
        rw [E.out]
        exact ⟨rfl, { v with pvRed := .slice A5 n5 d5 }, H5.out.put 24 _ rfl, HL.out, HI.out, HC.out⟩
       | false =>
        rw [e5] at q5
        have E : Hid (pvCmd word false a p = (a, p.fail)) := hid (by unfold pvCmd; rw [e0, e1, e2, e3, e4, e5]; rfl)
        go_enter Tryz.func98, Tryz.ntmps98
        have fb := H.out.st.frz 1
        have cb := H.out.st.bad1
        go_wp2_with fail
        go_end0
        rw [E.out]
        exact ⟨rfl, v, H.out.bad, HL.out, HI.out, HC.out⟩
end Go.Proofs.YtoceoaiokkbjeaaGreatDoor
