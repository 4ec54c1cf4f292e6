/- The walks of the reader's methods static and openProtocol. Conditions: the reader's lists are short (AlOk). -/
import Derived.Test.YtoceoaiokkbjeaaGreatDoorWw
import Derived.Test.YtoceoaiokkbjeaaGreatDoorWy
set_option maxRecDepth 8000
set_option maxHeartbeats 4000000
namespace Go.Proofs.YtoceoaiokkbjeaaGreatDoor
open Lib (hid)
open Go.RowKit
theorem OwnE.push {α : Type} {P : Program} {w : World} {B n bts : Nat} {T SL : TypeId} {cells : α → Array Value} {v : Value} {l : List α} (h : OwnE w B T n cells v l) (hB : B ≤ w.heap.size) (hu : P.underlying SL = some (.slice T))
  (hI : (P.info? T).map (fun i => (i.zero.map (fun z => z.cells.size), i.size, i.bytes)) = some (some n, n, bts)) (hn : 0 < n) (hl : ∀ x, (cells x).toList.length = n) (x : α) (h1 : (cells x).all (·.oneCell') = true)
  (hb : (l.length + 1) * bts ≤ 140737488355328) (hk : 0 < bts) (ty : TypeId) :
  ∃ A m c w', (Builtin.append_ #[SL, SL] ty #[v, .slice (some ⟨w.heap.size, 0, none⟩) 1 1]).run P (w.alloc (.cells (cells x) T)) = .ok (.slice A m c) w' ∧ OwnE w' B T n cells (.slice A m c) (l ++ [x]) ∧ w.grownBy w' v.ownBlock ∧
   ((Value.slice A m c).ownBlock = v.ownBlock ∨ (Value.slice A m c).ownBlock = none ∨ ∃ k, (Value.slice A m c).ownBlock = some k ∧ w.heap.size ≤ k) := by
 obtain ⟨i, z, hi, hz, hzs, his, hib⟩ := zBs hI
 have ho : (w.alloc (.cells (cells x) T)).ownsRow B T n v l.length (l.flatMap fun x => (cells x).toList) := OwnE.below h ((Below.refl _ w).alloc (Nat.le_refl _) _)
 have hm := Nat.le_mul_of_pos_right (l.length + 1) hk
 obtain ⟨v', w', hr, h2, h3, -, h5⟩ := run_append_own_at (P := P) (w.alloc (.cells (cells x) T)) B SL ty T i z n bts hu hi hz his hib hzs hn v l.length _ ho ⟨w.heap.size, 0, none⟩ 1 1 (cells x).toList (by rw [hl, Nat.one_mul])
  (fun j u hj => by rw [zIl]; simpa using hj) (fun u hu => Array.all_eq_true_iff_forall_mem.1 h1 u (by simpa using hu)) (by simp only [maxLen]; omega) hb (by simp; omega)
 have hf : ∃ A m c, v' = .slice A m c := by
  rcases h2.2 with ⟨e, -⟩ | ⟨g, cap, cur, e, -⟩
  ·exact ⟨_, _, _, e⟩
  ·exact ⟨_, _, _, e⟩
 obtain ⟨A, m, c, rfl⟩ := hf
 refine ⟨A, m, c, w', hr, OwnE.snoc h2, (World.grownBy_alloc w _ _).trans h3, ?_⟩
 rcases h5 with q | q
 ·exact .inl q
 ·exact .inr (.inr ⟨_, q, by simp⟩)
theorem Tryz.infoTr : (Tryz.prog.info? 70).map (fun i => (i.zero.map (fun z => z.cells.size), i.size, i.bytes)) = some (some 9, 9, 64) := by kernel_rfl
theorem translation_any (g b B : Nat) (w0 : World) (a : Al) (p : Ps) (w : World) (h : RA g b B w0 a p w) (hk : AlOk 1000000000 a) (he : EnvA B w0) (hs : p.short) :
  Calls Tryz.prog 114 #[.pointer (some ⟨g, 0, none⟩), .pointer (some ⟨b, 0, none⟩)] w (APost g b B w0 ({ a with nat := a.nat ++ [(zDz p).1] }) ((zDz p).2)) := by
 obtain ⟨v, h, hl, hI, hC⟩ := h
 have H := hid h
 have HE := hid he
 have HS := hid hs
 have HK := hid hk
 have HL := hid hl
 have HI := hid hI
 have HC := hid hC
 clear h he hs hk hl hI hC
 have q0 : ((str (wV p)).toList == [115, 116, 97, 116, 105, 99]) = ((wV p) == [115, 116, 97, 116, 105, 99]) := by rw [zAb]
 have q1 : ((str (wV p)).toList == [112, 111, 111, 108]) = ((wV p) == [112, 111, 111, 108]) := by rw [zAb]
 have q2 : ((str (wV p)).toList == [102, 111, 114, 119, 97, 114, 100]) = ((wV p) == [102, 111, 114, 119, 97, 114, 100]) := by rw [zAb]
 have K0 : RL 88 131 g b B w0 (AlC a v) (AlR a v) p 70 w.heap.size (Tr.C trZ) (w.alloc (.cells (Tr.C trZ) 70)) := RL.start H.out (HasC.new _ _ _) (World.grownBy.refl _ _)
 have H0 := hid K0
 clear K0
 go_enter Tryz.func114, Tryz.ntmps114
 go_wp2_with fail
 refine (zBc b B p _ H0.out.base.st).mono ?_
 rintro e w1 ⟨rfl, h1, k1⟩
 have H1 := hid (H0.out.word h1 k1)
 have HS1 := hid (zFg HS.out)
 clear h1 k1
 unfold strV
 go_upto_block 0 with (fail)
 go_cut [] (fun wx => RL 88 131 g b B w0 (AlC a v) (AlR a v) (zDz p).2 70 w.heap.size (Tr.C (zDz p).1) wx)
 case first =>
  cases e0 : (wV p == [115, 116, 97, 116, 105, 99]) with
  | true =>
   rw [e0] at q0
   have EC : Hid (zDz p = ({ trZ with kind := 1, ins := adV (wS p), outs := adV (adS (wS p)) }, adS (adS (wS p)))) := hid (by unfold zDz; dsimp only; simp only [e0, if_true])
   obtain ⟨y0, c0⟩ := H1.out.lsome (j := 0) (show 0 < 9 from by decide)
   have fz := H1.out.lfrz
   go_wp2_with fail
   refine (zBr b B (wS p) _ (H1.out.put 0 _ rfl).base.st ((H1.out.put 0 _ rfl).env HE.out) HS1.out).mono ?_
   rintro e w2 ⟨rfl, h2, k2⟩
   have H2 := hid ((H1.out.put 0 _ rfl).word h2 k2)
   clear h2 k2
   obtain ⟨y1, c1⟩ := H2.out.lsome (j := 1) (show 1 < 9 from by decide)
   have fz := H2.out.lfrz
   go_wp2_with fail
   refine (zBr b B (adS (wS p)) _ (H2.out.put 1 _ rfl).base.st ((H2.out.put 1 _ rfl).env HE.out) (zKu HS1.out)).mono ?_
   rintro e w3 ⟨rfl, h3, k3⟩
   have H3 := hid ((H2.out.put 1 _ rfl).word h3 k3)
   clear h3 k3
   obtain ⟨y2, c2⟩ := H3.out.lsome (j := 2) (show 2 < 9 from by decide)
   have fz := H3.out.lfrz
   go_wp2_with fail
   go_meet
   rw [EC.out]
   exact (H3.out.put 2 _ rfl)
  | false =>
   rw [e0] at q0
   cases e1 : (wV p == [112, 111, 111, 108]) with
   | true =>
    rw [e1] at q1
    have EC : Hid (zDz p = ({ trZ with kind := 2, list := nmV (wS p), lo := adV (nmS (wS p)), hi := adV (adS (nmS (wS p))) }, adS (adS (nmS (wS p))))) := hid (by unfold zDz; dsimp only; simp only [e0, e1, if_true, Bool.false_eq_true, if_false])
    obtain ⟨y0, c0⟩ := H1.out.lsome (j := 0) (show 0 < 9 from by decide)
    have fz := H1.out.lfrz
    go_wp2_with fail
    refine (zBb b B (wS p) _ (H1.out.put 0 _ rfl).base.st).mono ?_
    rintro e w2 ⟨rfl, h2, k2⟩
    have H2 := hid ((H1.out.put 0 _ rfl).word h2 k2)
    clear h2 k2
    unfold strV
    obtain ⟨y6, c6⟩ := H2.out.lsome (j := 6) (show 6 < 9 from by decide)
    have fz := H2.out.lfrz
    go_wp2_with fail
    refine (zBr b B (nmS (wS p)) _ (H2.out.put 6 _ rfl).base.st ((H2.out.put 6 _ rfl).env HE.out) (zCp HS1.out)).mono ?_
    rintro e w3 ⟨rfl, h3, k3⟩
    have H3 := hid ((H2.out.put 6 _ rfl).word h3 k3)
    clear h3 k3
    obtain ⟨y7, c7⟩ := H3.out.lsome (j := 7) (show 7 < 9 from by decide)
    have fz := H3.out.lfrz
    go_wp2_with fail
    refine (zBr b B (adS (nmS (wS p))) _ (H3.out.put 7 _ rfl).base.st ((H3.out.put 7 _ rfl).env HE.out) (zKu (zCp HS1.out))).mono ?_
    rintro e w4 ⟨rfl, h4, k4⟩
    have H4 := hid ((H3.out.put 7 _ rfl).word h4 k4)
    clear h4 k4
    obtain ⟨y8, c8⟩ := H4.out.lsome (j := 8) (show 8 < 9 from by decide)
    have fz := H4.out.lfrz
    go_wp2_with fail
    go_meet
    rw [EC.out]
    exact (H4.out.put 8 _ rfl)
   | false =>
    rw [e1] at q1
    cases e2 : (wV p == [102, 111, 114, 119, 97, 114, 100]) with
    | true =>
     rw [e2] at q2
     cases c : chB [116, 99, 112] [117, 100, 112] (wS p) with
     | true =>
      have EC : Hid (zDz p = ({ trZ with kind := 3, proto := 6, outs := adV (chS [116, 99, 112] [117, 100, 112] (wS p)), oport := noV 0 65535 (adS (chS [116, 99, 112] [117, 100, 112] (wS p))), ins := adV (noS 0 65535 (adS (chS [116, 99, 112] [117, 100, 112] (wS p)))), iport := noV 0 65535 (adS (noS 0 65535 (adS (chS [116, 99, 112] [117, 100, 112] (wS p))))) }, noS 0 65535 (adS (noS 0 65535 (adS (chS [116, 99, 112] [117, 100, 112] (wS p))))))) := hid (by unfold zDz; dsimp only; simp only [e0, e1, e2, c, if_true, Bool.false_eq_true, if_false])
      have CC := hid c
      clear c
      obtain ⟨y0, c0⟩ := H1.out.lsome (j := 0) (show 0 < 9 from by decide)
      obtain ⟨y3, c3⟩ := H1.out.lsome (j := 3) (show 3 < 9 from by decide)
      have fz := H1.out.lfrz
      go_wp2_with fail
      refine (zBg b B (wS p) [116, 99, 112] [117, 100, 112] _ ((H1.out.put 0 _ rfl).put 3 _ rfl).base.st).mono ?_
      rintro e w2 ⟨rfl, h2, k2⟩
      have H2 := hid (((H1.out.put 0 _ rfl).put 3 _ rfl).word h2 k2)
      clear h2 k2
      rw [CC.out]
      obtain ⟨y3, c3⟩ := H2.out.lsome (j := 3) (show 3 < 9 from by decide)
      have fz := H2.out.lfrz
      go_wp2_with fail
      refine (zBr b B (chS [116, 99, 112] [117, 100, 112] (wS p)) _ (H2.out.put 3 _ rfl).base.st ((H2.out.put 3 _ rfl).env HE.out) (zCc _ _ HS1.out)).mono ?_
      rintro e w3 ⟨rfl, h3, k3⟩
      have H3 := hid ((H2.out.put 3 _ rfl).word h3 k3)
      clear h3 k3
      obtain ⟨y2, c2⟩ := H3.out.lsome (j := 2) (show 2 < 9 from by decide)
      have fz := H3.out.lfrz
      go_wp2_with fail
      refine (zAo b B (adS (chS [116, 99, 112] [117, 100, 112] (wS p))) 0 65535 _ (H3.out.put 2 _ rfl).base.st).mono ?_
      rintro e w4 ⟨rfl, h4, k4⟩
      have H4 := hid ((H3.out.put 2 _ rfl).word h4 k4)
      clear h4 k4
      obtain ⟨y5, c5⟩ := H4.out.lsome (j := 5) (show 5 < 9 from by decide)
      have fz := H4.out.lfrz
      go_wp2_with fail
      refine (zBr b B (noS 0 65535 (adS (chS [116, 99, 112] [117, 100, 112] (wS p)))) _ (H4.out.put 5 _ rfl).base.st ((H4.out.put 5 _ rfl).env HE.out) (zCb _ _ (zKu (zCc _ _ HS1.out)))).mono ?_
      rintro e w5 ⟨rfl, h5, k5⟩
      have H5 := hid ((H4.out.put 5 _ rfl).word h5 k5)
      clear h5 k5
      obtain ⟨y1, c1⟩ := H5.out.lsome (j := 1) (show 1 < 9 from by decide)
      have fz := H5.out.lfrz
      go_wp2_with fail
      refine (zAo b B (adS (noS 0 65535 (adS (chS [116, 99, 112] [117, 100, 112] (wS p))))) 0 65535 _ (H5.out.put 1 _ rfl).base.st).mono ?_
      rintro e w6 ⟨rfl, h6, k6⟩
      have H6 := hid ((H5.out.put 1 _ rfl).word h6 k6)
      clear h6 k6
      obtain ⟨y4, c4⟩ := H6.out.lsome (j := 4) (show 4 < 9 from by decide)
      have fz := H6.out.lfrz
      go_wp2_with fail
      go_meet
      rw [EC.out]
      exact (H6.out.put 4 _ rfl)
     | false =>
      have EC : Hid (zDz p = ({ trZ with kind := 3, proto := 17, outs := adV (chS [116, 99, 112] [117, 100, 112] (wS p)), oport := noV 0 65535 (adS (chS [116, 99, 112] [117, 100, 112] (wS p))), ins := adV (noS 0 65535 (adS (chS [116, 99, 112] [117, 100, 112] (wS p)))), iport := noV 0 65535 (adS (noS 0 65535 (adS (chS [116, 99, 112] [117, 100, 112] (wS p))))) }, noS 0 65535 (adS (noS 0 65535 (adS (chS [116, 99, 112] [117, 100, 112] (wS p))))))) := hid (by unfold zDz; dsimp only; simp only [e0, e1, e2, c, if_true, Bool.false_eq_true, if_false])
      have CC := hid c
      clear c
      obtain ⟨y0, c0⟩ := H1.out.lsome (j := 0) (show 0 < 9 from by decide)
      obtain ⟨y3, c3⟩ := H1.out.lsome (j := 3) (show 3 < 9 from by decide)
      have fz := H1.out.lfrz
      go_wp2_with fail
      refine (zBg b B (wS p) [116, 99, 112] [117, 100, 112] _ ((H1.out.put 0 _ rfl).put 3 _ rfl).base.st).mono ?_
      rintro e w2 ⟨rfl, h2, k2⟩
      have H2 := hid (((H1.out.put 0 _ rfl).put 3 _ rfl).word h2 k2)
      clear h2 k2
      rw [CC.out]
      go_wp2_with fail
      refine (zBr b B (chS [116, 99, 112] [117, 100, 112] (wS p)) _ H2.out.base.st (H2.out.env HE.out) (zCc _ _ HS1.out)).mono ?_
      rintro e w3 ⟨rfl, h3, k3⟩
      have H3 := hid (H2.out.word h3 k3)
      clear h3 k3
      obtain ⟨y2, c2⟩ := H3.out.lsome (j := 2) (show 2 < 9 from by decide)
      have fz := H3.out.lfrz
      go_wp2_with fail
      refine (zAo b B (adS (chS [116, 99, 112] [117, 100, 112] (wS p))) 0 65535 _ (H3.out.put 2 _ rfl).base.st).mono ?_
      rintro e w4 ⟨rfl, h4, k4⟩
      have H4 := hid ((H3.out.put 2 _ rfl).word h4 k4)
      clear h4 k4
      obtain ⟨y5, c5⟩ := H4.out.lsome (j := 5) (show 5 < 9 from by decide)
      have fz := H4.out.lfrz
      go_wp2_with fail
      refine (zBr b B (noS 0 65535 (adS (chS [116, 99, 112] [117, 100, 112] (wS p)))) _ (H4.out.put 5 _ rfl).base.st ((H4.out.put 5 _ rfl).env HE.out) (zCb _ _ (zKu (zCc _ _ HS1.out)))).mono ?_
      rintro e w5 ⟨rfl, h5, k5⟩
      have H5 := hid ((H4.out.put 5 _ rfl).word h5 k5)
      clear h5 k5
      obtain ⟨y1, c1⟩ := H5.out.lsome (j := 1) (show 1 < 9 from by decide)
      have fz := H5.out.lfrz
      go_wp2_with fail
      refine (zAo b B (adS (noS 0 65535 (adS (chS [116, 99, 112] [117, 100, 112] (wS p))))) 0 65535 _ (H5.out.put 1 _ rfl).base.st).mono ?_
      rintro e w6 ⟨rfl, h6, k6⟩
      have H6 := hid ((H5.out.put 1 _ rfl).word h6 k6)
      clear h6 k6
      obtain ⟨y4, c4⟩ := H6.out.lsome (j := 4) (show 4 < 9 from by decide)
      have fz := H6.out.lfrz
      go_wp2_with fail
      go_meet
      rw [EC.out]
      exact (H6.out.put 4 _ rfl)
    | false =>
     rw [e2] at q2
     have EC : Hid (zDz p = (trZ, (wS p).fail)) := hid (by unfold zDz; dsimp only; simp only [e0, e1, e2, Bool.false_eq_true, if_false])
     have fb := H1.out.base.st.frz 1
     have cb := H1.out.base.st.bad1
     go_wp2_with fail
     go_meet
     rw [EC.out]
     exact H1.out.bad
 case rest =>
  obtain ⟨⟨x, q⟩, hxq⟩ : ∃ tp, tp = zDz p := ⟨_, rfl⟩
  rw [← hxq] at hcut
  have HXQ := hid hxq
  clear hxq
  dsimp only at hcut
  have MX := hid hcut
  clear hcut
  have cr : wc.cell? ⟨g, 6, none⟩ = .some v.nat := MX.out.base.cell 6
  have cra : ∀ o, (wc.alloc o).cell? ⟨g, 6, none⟩ = .some v.nat := fun o => (World.cell?_alloc_lt wc o ⟨g, 6, none⟩ MX.out.base.g_lt).trans cr
  have cx0 : wc.cell? ⟨w.heap.size, 0, none⟩ = .some (.int .i64 x.kind) := MX.out.loc.cell 0
  have cx1 : wc.cell? ⟨w.heap.size, 1, none⟩ = .some (.int .u32 (x.ins : Int)) := MX.out.loc.cell 1
  have cx2 : wc.cell? ⟨w.heap.size, 2, none⟩ = .some (.int .u32 (x.outs : Int)) := MX.out.loc.cell 2
  have cx3 : wc.cell? ⟨w.heap.size, 3, none⟩ = .some (.int .i64 x.proto) := MX.out.loc.cell 3
  have cx4 : wc.cell? ⟨w.heap.size, 4, none⟩ = .some (.int .i64 x.iport) := MX.out.loc.cell 4
  have cx5 : wc.cell? ⟨w.heap.size, 5, none⟩ = .some (.int .i64 x.oport) := MX.out.loc.cell 5
  have cx6 : wc.cell? ⟨w.heap.size, 6, none⟩ = .some (strV x.list) := MX.out.loc.cell 6
  have cx7 : wc.cell? ⟨w.heap.size, 7, none⟩ = .some (.int .u32 (x.lo : Int)) := MX.out.loc.cell 7
  have cx8 : wc.cell? ⟨w.heap.size, 8, none⟩ = .some (.int .u32 (x.hi : Int)) := MX.out.loc.cell 8
  have HO : OwnE wc.drew B 70 9 Tr.C v.nat a.nat := rowE_own.1 (RS.at (pre := (AlR a v).take 1) (post := (AlR a v).drop 2) (MX.out.base.keep (zAv wc)))
  obtain ⟨A5, m5, c5, w5, hr, ho5, hg5, hn5⟩ := HO.push (P := Tryz.prog) (by have := MX.out.base.size; have := MX.out.base.bB; show B ≤ wc.heap.size; omega) Tryz.underlying26 Tryz.infoTr (by decide) (fun _ => rfl) x (Tr.one x) (by have := HK.out.nat.1; omega) (by decide) 26
  have R5 : RS 88 131 g b B w0 (AlC a v) ((AlR a v).take 1 ++ rowE 70 9 Tr.C (.slice A5 m5 c5) (a.nat ++ [x]) :: (AlR a v).drop 2) q w5 := RS.row (r := rowE 70 9 Tr.C v.nat a.nat) (r' := rowE 70 9 Tr.C (.slice A5 m5 c5) (a.nat ++ [x])) MX.out.base (zBn hg5) ho5 hn5
  have H5 := hid R5
  have HR := hid hr
  clear R5 hr ho5 hg5 hn5 HO
  go_wp2_with fail
  go_region_law (refine zBk rfl _ _ 26 26 rfl v.nat (.slice (some ⟨wc.heap.size, 0, none⟩) 1 1) (by simp [Act.eval]) (by simp [Act.eval]) HR.out ?_; obtain ⟨y6, c6⟩ := H5.out.some (j := 6) (show 6 < 31 from by decide); have fz := H5.out.frz)
  all_goals
   go_wp2_with fail
   go_end0
   rw [← HXQ.out]
   exact ⟨rfl, { v with nat := .slice A5 m5 c5 }, H5.out.put 6 _ rfl, HL.out, HI.out, HC.out⟩
def stA (p : Ps) : Sr × Ps :=
 if wV (pxS p) == [118, 105, 97] then (⟨(pxV p).1, (pxV p).2, adV (wS (pxS p)), [], false, 1, 0⟩, adS (wS (pxS p))) else if wV (pxS p) == [105, 110, 116, 101, 114, 102, 97, 99, 101] then (⟨(pxV p).1, (pxV p).2, 0, nmV (wS (pxS p)), false, 1, 0⟩, nmS (wS (pxS p))) else if wV (pxS p) == [100, 105, 115, 99, 97, 114, 100] then (⟨(pxV p).1, (pxV p).2, 0, [], true, 1, 0⟩, (wS (pxS p))) else (⟨(pxV p).1, (pxV p).2, 0, [], false, 1, 0⟩, ((wS (pxS p))).fail)
def stB (b : Sr × Ps) : Sr × Ps := if isW [97, 100, 109, 105, 110] b.2 then ({ b.1 with admin := noV 1 255 (optS [97, 100, 109, 105, 110] b.2) }, noS 1 255 (optS [97, 100, 109, 105, 110] b.2)) else b
def stC (b : Sr × Ps) : Sr × Ps := if isW [116, 97, 103] b.2 then ({ b.1 with tag := noV 0 65535 (optS [116, 97, 103] b.2) }, noS 0 65535 (optS [116, 97, 103] b.2)) else b
theorem pStatic_st (p : Ps) : zEx p = stC (stB (stA p)) := rfl
theorem static_any (g b B : Nat) (w0 : World) (a : Al) (p : Ps) (w : World) (h : RA g b B w0 a p w) (hk : AlOk 1000000000 a) (he : EnvA B w0) (hs : p.short) :
  Calls Tryz.prog 115 #[.pointer (some ⟨g, 0, none⟩), .pointer (some ⟨b, 0, none⟩)] w (APost g b B w0 ({ a with stat := replL (likeSr (zEx p).1) (zEx p).1 a.stat }) ((zEx p).2)) := by
 obtain ⟨v, h, hl, hI, hC⟩ := h
 have H := hid h
 have HE := hid he
 have HS := hid hs
 have HK := hid hk
 have HL := hid hl
 have HI := hid hI
 have HC := hid hC
 clear h he hs hk hl hI hC
 have q0 : ((str (wV (pxS p))).toList == [118, 105, 97]) = ((wV (pxS p)) == [118, 105, 97]) := by rw [zAb]
 have q1 : ((str (wV (pxS p))).toList == [105, 110, 116, 101, 114, 102, 97, 99, 101]) = ((wV (pxS p)) == [105, 110, 116, 101, 114, 102, 97, 99, 101]) := by rw [zAb]
 have q2 : ((str (wV (pxS p))).toList == [100, 105, 115, 99, 97, 114, 100]) = ((wV (pxS p)) == [100, 105, 115, 99, 97, 114, 100]) := by rw [zAb]
 go_enter Tryz.func115, Tryz.ntmps115
 go_wp2_with fail
 refine (zBw b B p _ H.out.st (H.out.env HE.out) HS.out).mono ?_
 rintro e w1 ⟨rfl, h1, k1⟩
 have H1 := hid (H.out.word h1 k1)
 clear h1 k1
 go_wp2_with (refine zAe rfl _ _ _ rfl rfl (ds := Sr.C ⟨(pxV p).1, (pxV p).2, 0, [], false, 1, 0⟩) rfl (HasC.new _ _ _) rfl Tryz.sizeSr (Sr.one ⟨(pxV p).1, (pxV p).2, 0, [], false, 1, 0⟩) ?_; intro w2 hx hg; have H2 := hid (RL.start H1.out hx hg); clear hx hg)
 refine (zBc b B (pxS p) _ H2.out.base.st).mono ?_
 rintro e w3 ⟨rfl, h3, k3⟩
 have H3 := hid (H2.out.word h3 k3)
 clear h3 k3
 unfold strV
 have HS1 := hid (zFg (short_px HS.out))
 go_upto_block 0 with (fail)
 go_cut [] (fun wx => RL 88 131 g b B w0 (AlC a v) (AlR a v) (stA p).2 74 w1.heap.size (Sr.C (stA p).1) wx)
 case first =>
  cases e0 : (wV (pxS p) == [118, 105, 97]) with
  | true =>
   rw [e0] at q0
   have EC : Hid (stA p = (⟨(pxV p).1, (pxV p).2, adV (wS (pxS p)), [], false, 1, 0⟩, adS (wS (pxS p)))) := hid (by unfold stA; simp only [e0, if_true])
   go_wp2_with fail
   refine (zBr b B (wS (pxS p)) _ H3.out.base.st (H3.out.env HE.out) HS1.out).mono ?_
   rintro e w4 ⟨rfl, h4, k4⟩
   have H4 := hid (H3.out.word h4 k4)
   clear h4 k4
   obtain ⟨y2, c2⟩ := H4.out.lsome (j := 2) (show 2 < 7 from by decide)
   have fz := H4.out.lfrz
   go_wp2_with fail
   go_meet
   rw [EC.out]
   exact (H4.out.put 2 _ rfl)
  | false =>
   rw [e0] at q0
   cases e1 : (wV (pxS p) == [105, 110, 116, 101, 114, 102, 97, 99, 101]) with
   | true =>
    rw [e1] at q1
    have EC : Hid (stA p = (⟨(pxV p).1, (pxV p).2, 0, nmV (wS (pxS p)), false, 1, 0⟩, nmS (wS (pxS p)))) := hid (by unfold stA; simp only [e0, e1, if_true, Bool.false_eq_true, if_false])
    go_wp2_with fail
    refine (zBb b B (wS (pxS p)) _ H3.out.base.st).mono ?_
    rintro e w4 ⟨rfl, h4, k4⟩
    have H4 := hid (H3.out.word h4 k4)
    clear h4 k4
    unfold strV
    obtain ⟨y3, c3⟩ := H4.out.lsome (j := 3) (show 3 < 7 from by decide)
    have fz := H4.out.lfrz
    go_wp2_with fail
    go_meet
    rw [EC.out]
    exact (H4.out.put 3 _ rfl)
   | false =>
    rw [e1] at q1
    cases e2 : (wV (pxS p) == [100, 105, 115, 99, 97, 114, 100]) with
    | true =>
     rw [e2] at q2
     have EC : Hid (stA p = (⟨(pxV p).1, (pxV p).2, 0, [], true, 1, 0⟩, (wS (pxS p)))) := hid (by unfold stA; simp only [e0, e1, e2, if_true, Bool.false_eq_true, if_false])
     obtain ⟨y4, c4⟩ := H3.out.lsome (j := 4) (show 4 < 7 from by decide)
     have fz := H3.out.lfrz
     go_wp2_with fail
     go_meet
     rw [EC.out]
     exact (H3.out.put 4 _ rfl)
    | false =>
     rw [e2] at q2
     have EC : Hid (stA p = (⟨(pxV p).1, (pxV p).2, 0, [], false, 1, 0⟩, ((wS (pxS p))).fail)) := hid (by unfold stA; simp only [e0, e1, e2, Bool.false_eq_true, if_false])
     have fb := H3.out.base.st.frz 1
     have cb := H3.out.base.st.bad1
     go_wp2_with fail
     go_meet
     rw [EC.out]
     exact H3.out.bad
 case rest =>
  have MX := hid hcut
  clear hcut
  go_wp2_with fail
  refine (zAl b B (stA p).2 [97, 100, 109, 105, 110] _ MX.out.base.st).mono ?_
  rintro e w5 ⟨rfl, h5, k5⟩
  have H5 := hid (MX.out.word h5 k5)
  clear h5 k5
  go_upto_if 27 with fail
  go_cut [] (fun wx => RL 88 131 g b B w0 (AlC a v) (AlR a v) (stB (stA p)).2 74 w1.heap.size (Sr.C (stB (stA p)).1) wx)
  case first =>
   cases c : isW [97, 100, 109, 105, 110] (stA p).2 with
   | true =>
    have EC : Hid (stB (stA p) = ({ (stA p).1 with admin := noV 1 255 (optS [97, 100, 109, 105, 110] (stA p).2) }, noS 1 255 (optS [97, 100, 109, 105, 110] (stA p).2))) := hid (if_pos c)
    clear c
    go_wp2_with fail
    refine (zAo b B (optS [97, 100, 109, 105, 110] (stA p).2) 1 255 _ H5.out.base.st).mono ?_
    rintro e w6 ⟨rfl, h6, k6⟩
    have H6 := hid (H5.out.word h6 k6)
    clear h6 k6
    obtain ⟨y5, c5⟩ := H6.out.lsome (j := 5) (show 5 < 7 from by decide)
    have fz := H6.out.lfrz
    go_wp2_with fail
    go_meet
    rw [EC.out]
    exact (H6.out.put 5 _ rfl)
   | false =>
    have EC : Hid (stB (stA p) = (stA p)) := hid (if_neg (by rw [c]; decide))
    have EO := zBx c
    rw [EO] at H5
    clear c EO
    go_wp2_with fail
    go_meet
    rw [EC.out]
    exact H5.out
  case rest =>
   replace MX := hid hcut
   clear hcut
   go_wp2_with fail
   refine (zAl b B (stB (stA p)).2 [116, 97, 103] _ MX.out.base.st).mono ?_
   rintro e w5 ⟨rfl, h5, k5⟩
   have H5 := hid (MX.out.word h5 k5)
   clear h5 k5
   go_upto_if 32 with fail
   go_cut [] (fun wx => RL 88 131 g b B w0 (AlC a v) (AlR a v) (stC (stB (stA p))).2 74 w1.heap.size (Sr.C (stC (stB (stA p))).1) wx)
   case first =>
    cases c : isW [116, 97, 103] (stB (stA p)).2 with
    | true =>
     have EC : Hid (stC (stB (stA p)) = ({ (stB (stA p)).1 with tag := noV 0 65535 (optS [116, 97, 103] (stB (stA p)).2) }, noS 0 65535 (optS [116, 97, 103] (stB (stA p)).2))) := hid (if_pos c)
     clear c
     go_wp2_with fail
     refine (zAo b B (optS [116, 97, 103] (stB (stA p)).2) 0 65535 _ H5.out.base.st).mono ?_
     rintro e w6 ⟨rfl, h6, k6⟩
     have H6 := hid (H5.out.word h6 k6)
     clear h6 k6
     obtain ⟨y6, c6⟩ := H6.out.lsome (j := 6) (show 6 < 7 from by decide)
     have fz := H6.out.lfrz
     go_wp2_with fail
     go_meet
     rw [EC.out]
     exact (H6.out.put 6 _ rfl)
    | false =>
     have EC : Hid (stC (stB (stA p)) = (stB (stA p))) := hid (if_neg (by rw [c]; decide))
     have EO := zBx c
     rw [EO] at H5
     clear c EO
     go_wp2_with fail
     go_meet
     rw [EC.out]
     exact H5.out
   case rest =>
    replace MX := hid hcut
    clear hcut
    obtain ⟨⟨x, q⟩, hxq⟩ : ∃ tp, tp = zEx p := ⟨_, rfl⟩
    rw [← pStatic_st, ← hxq] at MX
    have HXQ := hid hxq
    clear hxq
    have cr : wc.cell? ⟨g, 7, none⟩ = .some v.stat := MX.out.base.cell 7
    go_wp2_with fail
    have cx0 : wc.cell? ⟨w1.heap.size, 0, none⟩ = .some (.int .u32 (x.pa : Int)) := MX.out.loc.cell 0
    have cx1 : wc.cell? ⟨w1.heap.size, 1, none⟩ = .some (.int .i64 x.pl) := MX.out.loc.cell 1
    have cx2 : wc.cell? ⟨w1.heap.size, 2, none⟩ = .some (.int .u32 (x.next : Int)) := MX.out.loc.cell 2
    have cx3 : wc.cell? ⟨w1.heap.size, 3, none⟩ = .some (strV x.iface) := MX.out.loc.cell 3
    have cx4 : wc.cell? ⟨w1.heap.size, 4, none⟩ = .some (.bool x.discard) := MX.out.loc.cell 4
    have cx5 : wc.cell? ⟨w1.heap.size, 5, none⟩ = .some (.int .i64 x.admin) := MX.out.loc.cell 5
    have cx6 : wc.cell? ⟨w1.heap.size, 6, none⟩ = .some (.int .i64 x.tag) := MX.out.loc.cell 6
    have HD := hid (MX.out.keep (zAv wc))
    go_region_law (go_simp; go_at_call 182; refine (repSr (pre := (AlR a v).take 2) (post := (AlR a v).drop 3) a.stat x HD.out HK.out.stat.1).mono ?_; rintro e wz ⟨v5, rfl, h5⟩; obtain ⟨A5, n5, d5, rfl⟩ := h5.form; have H5 := hid h5; clear h5; obtain ⟨y7, c7⟩ := H5.out.some (j := 7) (show 7 < 31 from by decide); have fz := H5.out.frz)
    all_goals
     go_wp2_with fail
     go_end0
     rw [← HXQ.out]
     exact ⟨rfl, { v with stat := .slice A5 n5 d5 }, H5.out.put 7 _ rfl, HL.out, HI.out, HC.out⟩
theorem zKs (g b B : Nat) (w0 : World) (a : Al) (p : Ps) (w : World) (h : RA g b B w0 a p w) (hk : AlOk 1000000000 a) (he : EnvA B w0) (hs : p.short) :
  Calls Tryz.prog 116 #[.pointer (some ⟨g, 0, none⟩), .pointer (some ⟨b, 0, none⟩)] w (APost g b B w0 ((zEh a p).1) ((zEh a p).2)) := by
 obtain ⟨v, h, hl, hI, hC⟩ := h
 have H := hid h
 have HE := hid he
 have HS := hid hs
 have HK := hid hk
 have HL := hid hl
 have HI := hid hI
 have HC := hid hC
 clear h he hs hk hl hI hC
 have q0 : ((str (wV p)).toList == [108, 115]) = ((wV p) == [108, 115]) := by rw [zAb]
 have q1 : ((str (wV p)).toList == [100, 118]) = ((wV p) == [100, 118]) := by rw [zAb]
 have q2 : ((str (wV p)).toList == [112, 118]) = ((wV p) == [112, 118]) := by rw [zAb]
 cases e0 : (wV p == [108, 115]) with
 | true =>
  rw [e0] at q0
  cases c : a.lsOn with
  | true =>
   have E : Hid (zEh a p = ({ a with block := 3 }, wS p)) := hid (by unfold zEh; dsimp only; rw [e0, c]; rfl)
   go_enter Tryz.func116, Tryz.ntmps116
   go_wp2_with fail
   refine (zBc b B p _ H.out.st).mono ?_
   rintro e w1 ⟨rfl, h1, k1⟩
   have H1 := hid (H.out.word h1 k1)
   clear h1 k1
   unfold strV
   have co : w1.cell? ⟨g, 8, none⟩ = .some (.bool true) := by rw [← c]; exact H1.out.cell 8
   clear c
   obtain ⟨y28, c28⟩ := H1.out.some (j := 28) (show 28 < 31 from by decide)
   have fz := H1.out.frz
   go_wp2_with fail
   go_end0
   rw [E.out]
   exact ⟨rfl, v, (H1.out.put 28 _ rfl), HL.out, (fun (h : (3 : Int) = 1) => absurd h (by decide)), (fun (h : (3 : Int) = 2) => absurd h (by decide))⟩
  | false =>
   have E : Hid (zEh a p = ({ a with block := 3, lsOn := true, lsAdmin := 110 }, wS p)) := hid (by unfold zEh; dsimp only; rw [e0, c]; rfl)
   go_enter Tryz.func116, Tryz.ntmps116
   go_wp2_with fail
   refine (zBc b B p _ H.out.st).mono ?_
   rintro e w1 ⟨rfl, h1, k1⟩
   have H1 := hid (H.out.word h1 k1)
   clear h1 k1
   unfold strV
   have co : w1.cell? ⟨g, 8, none⟩ = .some (.bool false) := by rw [← c]; exact H1.out.cell 8
   clear c
   obtain ⟨y28, c28⟩ := H1.out.some (j := 28) (show 28 < 31 from by decide)
   obtain ⟨y9, c9⟩ := H1.out.some (j := 9) (show 9 < 31 from by decide)
   have fz := H1.out.frz
   go_wp2_with fail
   go_end0
   rw [E.out]
   exact ⟨rfl, v, (((H1.out.put 28 _ rfl).put 8 _ rfl).put 9 _ rfl), HL.out, (fun (h : (3 : Int) = 1) => absurd h (by decide)), (fun (h : (3 : Int) = 2) => absurd h (by decide))⟩
 | false =>
  rw [e0] at q0
  cases e1 : (wV p == [100, 118]) with
  | true =>
   rw [e1] at q1
   cases c : a.dvOn with
   | true =>
    have E : Hid (zEh a p = ({ a with block := 4 }, wS p)) := hid (by unfold zEh; dsimp only; rw [e0, e1, c]; rfl)
    go_enter Tryz.func116, Tryz.ntmps116
    go_wp2_with fail
    refine (zBc b B p _ H.out.st).mono ?_
    rintro e w1 ⟨rfl, h1, k1⟩
    have H1 := hid (H.out.word h1 k1)
    clear h1 k1
    unfold strV
    have co : w1.cell? ⟨g, 12, none⟩ = .some (.bool true) := by rw [← c]; exact H1.out.cell 12
    clear c
    obtain ⟨y28, c28⟩ := H1.out.some (j := 28) (show 28 < 31 from by decide)
    have fz := H1.out.frz
    go_wp2_with fail
    go_end0
    rw [E.out]
    exact ⟨rfl, v, (H1.out.put 28 _ rfl), HL.out, (fun (h : (4 : Int) = 1) => absurd h (by decide)), (fun (h : (4 : Int) = 2) => absurd h (by decide))⟩
   | false =>
    have E : Hid (zEh a p = ({ a with block := 4, dvOn := true, dvAdmin := 120 }, wS p)) := hid (by unfold zEh; dsimp only; rw [e0, e1, c]; rfl)
    go_enter Tryz.func116, Tryz.ntmps116
    go_wp2_with fail
    refine (zBc b B p _ H.out.st).mono ?_
    rintro e w1 ⟨rfl, h1, k1⟩
    have H1 := hid (H.out.word h1 k1)
    clear h1 k1
    unfold strV
    have co : w1.cell? ⟨g, 12, none⟩ = .some (.bool false) := by rw [← c]; exact H1.out.cell 12
    clear c
    obtain ⟨y28, c28⟩ := H1.out.some (j := 28) (show 28 < 31 from by decide)
    obtain ⟨y13, c13⟩ := H1.out.some (j := 13) (show 13 < 31 from by decide)
    have fz := H1.out.frz
    go_wp2_with fail
    go_end0
    rw [E.out]
    exact ⟨rfl, v, (((H1.out.put 28 _ rfl).put 12 _ rfl).put 13 _ rfl), HL.out, (fun (h : (4 : Int) = 1) => absurd h (by decide)), (fun (h : (4 : Int) = 2) => absurd h (by decide))⟩
  | false =>
   rw [e1] at q1
   cases e2 : (wV p == [112, 118]) with
   | true =>
    rw [e2] at q2
    cases c : a.pvOn with
    | true =>
     have E : Hid (zEh a p = ({ a with block := 5 }, wS p)) := hid (by unfold zEh; dsimp only; rw [e0, e1, e2, c]; rfl)
     go_enter Tryz.func116, Tryz.ntmps116
     go_wp2_with fail
     refine (zBc b B p _ H.out.st).mono ?_
     rintro e w1 ⟨rfl, h1, k1⟩
     have H1 := hid (H.out.word h1 k1)
     clear h1 k1
     unfold strV
     have co : w1.cell? ⟨g, 17, none⟩ = .some (.bool true) := by rw [← c]; exact H1.out.cell 17
     clear c
     obtain ⟨y28, c28⟩ := H1.out.some (j := 28) (show 28 < 31 from by decide)
     have fz := H1.out.frz
     go_wp2_with fail
     go_end0
     rw [E.out]
     exact ⟨rfl, v, (H1.out.put 28 _ rfl), HL.out, (fun (h : (5 : Int) = 1) => absurd h (by decide)), (fun (h : (5 : Int) = 2) => absurd h (by decide))⟩
    | false =>
     have E : Hid (zEh a p = ({ a with block := 5, pvOn := true, ext := 20, int := 200 }, wS p)) := hid (by unfold zEh; dsimp only; rw [e0, e1, e2, c]; rfl)
     go_enter Tryz.func116, Tryz.ntmps116
     go_wp2_with fail
     refine (zBc b B p _ H.out.st).mono ?_
     rintro e w1 ⟨rfl, h1, k1⟩
     have H1 := hid (H.out.word h1 k1)
     clear h1 k1
     unfold strV
     have co : w1.cell? ⟨g, 17, none⟩ = .some (.bool false) := by rw [← c]; exact H1.out.cell 17
     clear c
     obtain ⟨y28, c28⟩ := H1.out.some (j := 28) (show 28 < 31 from by decide)
     obtain ⟨y18, c18⟩ := H1.out.some (j := 18) (show 18 < 31 from by decide)
     obtain ⟨y19, c19⟩ := H1.out.some (j := 19) (show 19 < 31 from by decide)
     have fz := H1.out.frz
     go_wp2_with fail
     go_end0
     rw [E.out]
     exact ⟨rfl, v, ((((H1.out.put 28 _ rfl).put 17 _ rfl).put 18 _ rfl).put 19 _ rfl), HL.out, (fun (h : (5 : Int) = 1) => absurd h (by decide)), (fun (h : (5 : Int) = 2) => absurd h (by decide))⟩
   | false =>
    rw [e2] at q2
    have E : Hid (zEh a p = (a, (wS p).fail)) := hid (by unfold zEh; dsimp only; rw [e0, e1, e2]; rfl)
    go_enter Tryz.func116, Tryz.ntmps116
    go_wp2_with fail
    refine (zBc b B p _ H.out.st).mono ?_
    rintro e w1 ⟨rfl, h1, k1⟩
    have H1 := hid (H.out.word h1 k1)
    clear h1 k1
    unfold strV
    have fb := H1.out.st.frz 1
    have cb := H1.out.st.bad1
    go_wp2_with fail
    go_end0
    rw [E.out]
    exact ⟨rfl, v, H1.out.bad, HL.out, HI.out, HC.out⟩
end Go.Proofs.YtoceoaiokkbjeaaGreatDoor
