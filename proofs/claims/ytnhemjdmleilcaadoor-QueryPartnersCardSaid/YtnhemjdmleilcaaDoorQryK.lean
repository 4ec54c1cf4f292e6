/- The walk of the reference's Parse. Condition: Go's tables and the words lie below the world's blocks (EnvB). -/
import Derived.Test.YtnhemjdmleilcaaDoorQryJ
import Derived.Deep.DeepCutAuto
import Derived.Deep.CutBlock
namespace Go.Proofs.YtnhemjdmleilcaaDoor
open Go.RowKit

/-- The state in the middle of the reference's walk: the result in block B (the first new one), the reader in b, the query in g. -/
structure Md (T : TypeId) (b G g : Nat) (w0 : World) (x : St) (w : World) : Prop where
  q : HasQ g x.1 w
  r : HasQ w0.heap.size Qr.zero w
  p : PSt T b G x.2 w
  l : Below w0.heap.size w0 w
  e : EnvB w0.heap.size w
  s : x.2.short
  o : w0.heap.size < b ∧ b < G ∧ G ≤ g

theorem Md.call {T : TypeId} {b G g : Nat} {w0 w w' : World} {x : St} (m : Md T b G g w0 x w) {p' : Ps} (hp : PSt T b G p' w') (hg : w.grownBy w' (some b)) (hs : p'.short) : Md T b G g w0 (x.1, p') w' := by
  obtain ⟨h1, h2, h3⟩ := m.o
  have hw : w0.heap.size ≤ w.heap.size := m.l.size
  have hb := below_of_grown (B := w0.heap.size) hg (by omega) hw
  exact ⟨m.q.grown hg (fun e => by injection e; omega), m.r.grown hg (fun e => by injection e; omega), hp, m.l.trans hb, m.e.keep hb, hs, m.o⟩
theorem Md.put {T : TypeId} {b G g : Nat} {w0 w : World} {x : St} (m : Md T b G g w0 x w) {q' : Qr} {j : Nat} (v : Value) (e : (QC x.1).setIfInBounds j v = QC q') : Md T b G g w0 (q', x.2) (w.setCell ⟨g, j, none⟩ v) := by
  obtain ⟨h1, h2, h3⟩ := m.o
  have hb : Below g w (w.setCell ⟨g, j, none⟩ v) := (Below.refl _ _).setCell (p := ⟨g, j, none⟩) (Nat.le_refl _) v
  exact ⟨m.q.put v e, m.r.other v (by omega), m.p.keep (hb.mono h3), m.l.trans (hb.mono (by omega)), m.e.keep (hb.mono (by omega)), m.s, m.o⟩
theorem nxt_word {f : List UInt8} {r : List (List UInt8)} : nxtV ⟨f :: r, false⟩ = f := rfl
theorem feed_on {s : ByteArray} {k : Nat} (h : k < s.size) (hm : (10 : UInt8) ∈ (bytes s).drop k) (hc : ((s[k].toNat : Int) == 10) = false) : (10 : UInt8) ∈ (bytes s).drop (k + 1) := by
  rw [drop_step s k h] at hm
  rcases List.mem_cons.1 hm with e | e
  · rw [← e] at hc; exact absurd hc (by decide)
  · exact e
theorem feed_no {s : ByteArray} {k : Nat} (h : k < s.size) (hm : (10 : UInt8) ∉ bytes s) : ((s[k].toNat : Int) == 10) = false := by
  simp only [beq_eq_false_iff_ne, ne_eq]
  intro e
  apply hm
  have : s[k] = 10 := by
    apply UInt8.toNat_inj.1
    have : s[k].toNat = 10 := by omega
    exact this
  rw [← this]
  have : s[k] ∈ (bytes s).drop k := by rw [drop_step s k h]; simp
  exact List.mem_of_mem_drop this

/-- The code behind the first n statements. -/
def sndSeq : Code → Code
  | .seq _ b => b
  | c => c
noncomputable def code15 : Nat → Code
  | 0 => Tryd.f15.body.getD .skip
  | n + 1 => sndSeq (code15 n)
/-- What the last state answers. -/
def Fin (s : ByteArray) (x : St) : Prop := (parseE (bytes s) = if x.2.bad || !x.2.fs.isEmpty then 2 else validE x.1) ∧ (parseE (bytes s) = 0 → parseQ (bytes s) = x.1) ∧ x.1.fit

set_option maxRecDepth 100000 in
set_option maxHeartbeats 4000000 in
theorem rest20 (s : ByteArray) (w : World) (b g : Nat) (x : St) (wc : World) (hM : Md 75 b (b + 1) g w x wc) (hF : Fin s (x))
    (z0 z1 z3 z4 z5 z6 z9 z10 z11 z12 z13 z14 z15 z16 z17 z18 z19 z20 z21 z22 z23 z24 z25 z26 z27 z28 z29 z30 z31 z32 z33 z34 z35 z36 z37 z38 z39 z40 z41 z42 z43 z44 z45 z46 z47 z48 z49 z50 z51 z52 z53 z54 z55 z56 z57 z58 z59 z60 z61 z62 z63 z64 z65 z66 z67 z68 z69 z70 z71 z72 z73 z74 z75 z76 z77 z78 z79 z80 z81 z82 z83 z84 z85 z86 z87 z88 z89 z90 z91 z92 z93 z94 z95 z96 z97 z98 z99 z100 z101 z102 z103 z104 z105 z106 z107 z108 z109 z110 z111 z112 z113 z114 z115 z116 z117 z118 z119 z120 z121 z122 z123 z124 z125 z126 z127 z128 z129 z130 z131 z132 z133 z134 z135 z136 z137 z138 z139 z140 z141 z142 z143 z144 z145 z146 z147 z148 z149 z150 z151 z152 z153 z154 z155 z156 z157 z158 z159 z160 z161 z162 z163 z164 z165 z166 z167 z168 z169 : Value) : Code.wp Tryd.prog (code15 20) (bodyPost Tryd.prog Tryd.f15 (QPost (bytes s) w)) ⟨#[z0, z1, .pointer (some ⟨w.heap.size, 0, none⟩), z3, z4, z5, z6, .pointer (some ⟨b, 0, none⟩), .pointer (some ⟨g, 0, none⟩), z9, z10, z11, z12, z13, z14, z15, z16, z17, z18, z19, z20, z21, z22, z23, z24, z25, z26, z27, z28, z29, z30, z31, z32, z33, z34, z35, z36, z37, z38, z39, z40, z41, z42, z43, z44, z45, z46, z47, z48, z49, z50, z51, z52, z53, z54, z55, z56, z57, z58, z59, z60, z61, z62, z63, z64, z65, z66, z67, z68, z69, z70, z71, z72, z73, z74, z75, z76, z77, z78, z79, z80, z81, z82, z83, z84, z85, z86, z87, z88, z89, z90, z91, z92, z93, z94, z95, z96, z97, z98, z99, z100, z101, z102, z103, z104, z105, z106, z107, z108, z109, z110, z111, z112, z113, z114, z115, z116, z117, z118, z119, z120, z121, z122, z123, z124, z125, z126, z127, z128, z129, z130, z131, z132, z133, z134, z135, z136, z137, z138, z139, z140, z141, z142, z143, z144, z145, z146, z147, z148, z149, z150, z151, z152, z153, z154, z155, z156, z157, z158, z159, z160, z161, z162, z163, z164, z165, z166, z167, z168, z169], []⟩ wc := by
  conv => arg 2; whnf
  have MX := Lib.hid hM
  replace hF := Lib.hid hF
  clear hM
  obtain ⟨q, fs', bad⟩ := x
  obtain ⟨-, -, v9, hv9, -, A9, k9, rfl, -⟩ := MX.out.p
  have c0 : wc.cell? ⟨b, 0, none⟩ = some (.slice A9 fs'.length k9) := Lib.cell_of_heap hv9 0
  have c1 : wc.cell? ⟨b, 1, none⟩ = some (.bool bad) := Lib.cell_of_heap hv9 1
  have E4 := Lib.hid hF.out.1
  have E5 := Lib.hid hF.out.2.1
  have hfit := Lib.hid hF.out.2.2
  clear hv9 hF
  dsimp only at E4 E5 hfit
  cases bad with
  | true =>
    have E1 : Hid (parseE (bytes s) = 2) := Lib.hid (by rw [E4.out]; rfl)
    go_wp2_with (first | (refine wpList_storeQ (q' := Qr.zero) rfl _ _ rfl rfl rfl MX.out.r ?_; intro wz hz1 hz2))
    refine bodyPost_ret (results_cell2 rfl rfl rfl hz1.load) rfl (qpost E1.out (parseQ_bad E1.out (by decide)) ?_)
    exact MX.out.l.trans (below_of_grown hz2 (Nat.le_refl _) MX.out.l.size)
  | false =>
  cases fs' with
  | cons f r =>
    have E1 : Hid (parseE (bytes s) = 2) := Lib.hid (by rw [E4.out]; rfl)
    go_wp2_with (first | (refine wpList_storeQ (q' := Qr.zero) rfl _ _ rfl rfl rfl MX.out.r ?_; intro wz hz1 hz2))
    refine bodyPost_ret (results_cell2 rfl rfl rfl hz1.load) rfl (qpost E1.out (parseQ_bad E1.out (by decide)) ?_)
    exact MX.out.l.trans (below_of_grown hz2 (Nat.le_refl _) MX.out.l.size)
  | nil =>
  have E1 : Hid (parseE (bytes s) = validE q) := Lib.hid (by rw [E4.out]; rfl)
  go_wp2_with (first | (refine wpList_loadQ rfl _ rfl rfl MX.out.q ?_))
  refine (rqvalid_any q _ hfit.out).mono ?_
  rintro e wf ⟨rfl, hb⟩
  have Z7 := Lib.hid (MX.out.r.below hb (blk_lt MX.out.r))
  have Q7 := Lib.hid (MX.out.q.below hb (blk_lt MX.out.q))
  have B7 := Lib.hid (MX.out.l.trans (hb.mono MX.out.l.size))
  by_cases hv : validE q = 0
  case neg =>
    have hn : (validE q != 0) = true := by simpa using hv
    have HV := Lib.hid hv
    clear hv hb
    go_wp2_with (first | (refine wpList_storeQ (q' := Qr.zero) rfl _ _ rfl rfl rfl Z7.out ?_; intro wz hz1 hz2))
    refine bodyPost_ret (results_cell2 rfl rfl rfl hz1.load) rfl (qpost E1.out (parseQ_bad E1.out HV.out) ?_)
    exact B7.out.trans (below_of_grown hz2 (Nat.le_refl _) B7.out.size)
  have HV := Lib.hid hv
  rw [hv]
  clear hv hb
  go_wp2_with (first | (refine wpList_loadQ rfl _ rfl rfl Q7.out ?_) | (refine wpList_storeQ (q' := q) rfl _ _ rfl rfl rfl Z7.out ?_; intro wz hz1 hz2))
  refine bodyPost_ret (results_cell2 rfl rfl rfl hz1.load) rfl (qpost (E1.out.trans HV.out) (E5.out (E1.out.trans HV.out)) ?_)
  exact B7.out.trans (below_of_grown hz2 (Nat.le_refl _) B7.out.size)

set_option maxRecDepth 100000 in
set_option maxHeartbeats 4000000 in
theorem rest19 (s : ByteArray) (w : World) (b g : Nat) (x : St) (wc : World) (hM : Md 75 b (b + 1) g w x wc) (hF : Fin s (stFails x))
    (z0 z1 z3 z4 z5 z6 z9 z10 z11 z12 z13 z14 z15 z16 z17 z18 z19 z20 z21 z22 z23 z24 z25 z26 z27 z28 z29 z30 z31 z32 z33 z34 z35 z36 z37 z38 z39 z40 z41 z42 z43 z44 z45 z46 z47 z48 z49 z50 z51 z52 z53 z54 z55 z56 z57 z58 z59 z60 z61 z62 z63 z64 z65 z66 z67 z68 z69 z70 z71 z72 z73 z74 z75 z76 z77 z78 z79 z80 z81 z82 z83 z84 z85 z86 z87 z88 z89 z90 z91 z92 z93 z94 z95 z96 z97 z98 z99 z100 z101 z102 z103 z104 z105 z106 z107 z108 z109 z110 z111 z112 z113 z114 z115 z116 z117 z118 z119 z120 z121 z122 z123 z124 z125 z126 z127 z128 z129 z130 z131 z132 z133 z134 z135 z136 z137 z138 z139 z140 z141 z142 z143 z144 z145 z146 z147 z148 z149 z150 z151 z152 z153 z154 z155 z156 z157 z158 z159 z160 z161 z162 z163 z164 z165 z166 z167 z168 z169 : Value) : Code.wp Tryd.prog (code15 19) (bodyPost Tryd.prog Tryd.f15 (QPost (bytes s) w)) ⟨#[z0, z1, .pointer (some ⟨w.heap.size, 0, none⟩), z3, z4, z5, z6, .pointer (some ⟨b, 0, none⟩), .pointer (some ⟨g, 0, none⟩), z9, z10, z11, z12, z13, z14, z15, z16, z17, z18, z19, z20, z21, z22, z23, z24, z25, z26, z27, z28, z29, z30, z31, z32, z33, z34, z35, z36, z37, z38, z39, z40, z41, z42, z43, z44, z45, z46, z47, z48, z49, z50, z51, z52, z53, z54, z55, z56, z57, z58, z59, z60, z61, z62, z63, z64, z65, z66, z67, z68, z69, z70, z71, z72, z73, z74, z75, z76, z77, z78, z79, z80, z81, z82, z83, z84, z85, z86, z87, z88, z89, z90, z91, z92, z93, z94, z95, z96, z97, z98, z99, z100, z101, z102, z103, z104, z105, z106, z107, z108, z109, z110, z111, z112, z113, z114, z115, z116, z117, z118, z119, z120, z121, z122, z123, z124, z125, z126, z127, z128, z129, z130, z131, z132, z133, z134, z135, z136, z137, z138, z139, z140, z141, z142, z143, z144, z145, z146, z147, z148, z149, z150, z151, z152, z153, z154, z155, z156, z157, z158, z159, z160, z161, z162, z163, z164, z165, z166, z167, z168, z169], []⟩ wc := by
  conv => arg 2; whnf
  have MX := Lib.hid hM
  replace hF := Lib.hid hF
  clear hM
  go_wp2_with fail
  refine (ris_any b (b + 1) _ ⟨#[102, 97, 105, 108, 117, 114, 101, 115]⟩ _ MX.out.p).mono ?_
  rintro e wa ⟨rfl, ga, ka⟩
  have MA := Lib.hid (MX.out.call ga ka (short_acc _ MX.out.s))
  clear ga ka
  go_upto_if 146 with fail
  go_cut [] (fun wx => Md 75 b (b + 1) g w (stFails x) wx)
  case first =>
    cases ha : accB (bytes ⟨#[102, 97, 105, 108, 117, 114, 101, 115]⟩) x.2 with
    | true =>
      have E : Hid (stFails x = ({ x.1 with fails := numVP (accS wFails x.2) }, numS (accS wFails x.2))) := Lib.hid (if_pos ha)
      go_wp2_with fail
      refine (rdnumber_any b (b + 1) _ _ MA.out.p).mono ?_
      rintro e wb ⟨rfl, ga, ka⟩
      have MB := Lib.hid (MA.out.call ga ka (short_num MA.out.s))
      clear ga ka
      have c1 : wb.cell? ⟨g, 19, none⟩ = some (.int .i64 x.1.fails) := MB.out.q.cell 19
      have f1 := MB.out.q.frz 19
      go_wp2_with fail
      go_meet
      rw [E.out]
      exact MB.out.put (j := 19) _ rfl
    | false =>
      have E : Hid (stFails x = (x.1, accS wFails x.2)) := Lib.hid ((if_neg (by rw [show accB wFails x.2 = false from ha]; simp)).trans (by rw [acc_idle (show accB wFails x.2 = false from ha)]))
      go_wp2_with fail
      go_meet
      rw [E.out]
      exact MA.out
  case rest =>
  rename_i K hK
  exact hK _ _ (rest20 s w b g (stFails x) _ hcut hF.out _ _ _ _ _ _ _ _ _ _ _ _ _ _ _ _ _ _ _ _ _ _ _ _ _ _ _ _ _ _ _ _ _ _ _ _ _ _ _ _ _ _ _ _ _ _ _ _ _ _ _ _ _ _ _ _ _ _ _ _ _ _ _ _ _ _ _ _ _ _ _ _ _ _ _ _ _ _ _ _ _ _ _ _ _ _ _ _ _ _ _ _ _ _ _ _ _ _ _ _ _ _ _ _ _ _ _ _ _ _ _ _ _ _ _ _ _ _ _ _ _ _ _ _ _ _ _ _ _ _ _ _ _ _ _ _ _ _ _ _ _ _ _ _ _ _ _ _ _ _ _ _ _ _ _ _ _ _ _ _ _ _ _ _ _ _ _)

set_option maxRecDepth 100000 in
set_option maxHeartbeats 4000000 in
theorem rest18 (s : ByteArray) (w : World) (b g : Nat) (x : St) (wc : World) (hM : Md 75 b (b + 1) g w x wc) (hF : Fin s (stFails (rDport x)))
    (z0 z1 z3 z4 z5 z6 z9 z10 z11 z12 z13 z14 z15 z16 z17 z18 z19 z20 z21 z22 z23 z24 z25 z26 z27 z28 z29 z30 z31 z32 z33 z34 z35 z36 z37 z38 z39 z40 z41 z42 z43 z44 z45 z46 z47 z48 z49 z50 z51 z52 z53 z54 z55 z56 z57 z58 z59 z60 z61 z62 z63 z64 z65 z66 z67 z68 z69 z70 z71 z72 z73 z74 z75 z76 z77 z78 z79 z80 z81 z82 z83 z84 z85 z86 z87 z88 z89 z90 z91 z92 z93 z94 z95 z96 z97 z98 z99 z100 z101 z102 z103 z104 z105 z106 z107 z108 z109 z110 z111 z112 z113 z114 z115 z116 z117 z118 z119 z120 z121 z122 z123 z124 z125 z126 z127 z128 z129 z130 z131 z132 z133 z134 z135 z136 z137 z138 z139 z140 z141 z142 z143 z144 z145 z146 z147 z148 z149 z150 z151 z152 z153 z154 z155 z156 z157 z158 z159 z160 z161 z162 z163 z164 z165 z166 z167 z168 z169 : Value) : Code.wp Tryd.prog (code15 18) (bodyPost Tryd.prog Tryd.f15 (QPost (bytes s) w)) ⟨#[z0, z1, .pointer (some ⟨w.heap.size, 0, none⟩), z3, z4, z5, z6, .pointer (some ⟨b, 0, none⟩), .pointer (some ⟨g, 0, none⟩), z9, z10, z11, z12, z13, z14, z15, z16, z17, z18, z19, z20, z21, z22, z23, z24, z25, z26, z27, z28, z29, z30, z31, z32, z33, z34, z35, z36, z37, z38, z39, z40, z41, z42, z43, z44, z45, z46, z47, z48, z49, z50, z51, z52, z53, z54, z55, z56, z57, z58, z59, z60, z61, z62, z63, z64, z65, z66, z67, z68, z69, z70, z71, z72, z73, z74, z75, z76, z77, z78, z79, z80, z81, z82, z83, z84, z85, z86, z87, z88, z89, z90, z91, z92, z93, z94, z95, z96, z97, z98, z99, z100, z101, z102, z103, z104, z105, z106, z107, z108, z109, z110, z111, z112, z113, z114, z115, z116, z117, z118, z119, z120, z121, z122, z123, z124, z125, z126, z127, z128, z129, z130, z131, z132, z133, z134, z135, z136, z137, z138, z139, z140, z141, z142, z143, z144, z145, z146, z147, z148, z149, z150, z151, z152, z153, z154, z155, z156, z157, z158, z159, z160, z161, z162, z163, z164, z165, z166, z167, z168, z169], []⟩ wc := by
  conv => arg 2; whnf
  have MX := Lib.hid hM
  replace hF := Lib.hid hF
  clear hM
  go_wp2_with fail
  refine (ris_any b (b + 1) _ ⟨#[100, 112, 111, 114, 116]⟩ _ MX.out.p).mono ?_
  rintro e wa ⟨rfl, ga, ka⟩
  have MA := Lib.hid (MX.out.call ga ka (short_acc _ MX.out.s))
  clear ga ka
  go_upto_if 134 with fail
  go_cut [] (fun wx => Md 75 b (b + 1) g w (rDport x) wx)
  case first =>
    cases ha : accB (bytes ⟨#[100, 112, 111, 114, 116]⟩) x.2 with
    | true =>
      have E : Hid (rDport x = ({ x.1 with dlo := numVP (accS wDport x.2), dhi := numVP (numS (accS wDport x.2)) }, numS (numS (accS wDport x.2)))) := Lib.hid (if_pos ha)
      go_wp2_with fail
      refine (rdnumber_any b (b + 1) _ _ MA.out.p).mono ?_
      rintro e wb ⟨rfl, ga, ka⟩
      have MB := Lib.hid (MA.out.call ga ka (short_num MA.out.s))
      clear ga ka
      have c1 : wb.cell? ⟨g, 17, none⟩ = some (.int .i64 x.1.dlo) := MB.out.q.cell 17
      have f1 := MB.out.q.frz 17
      go_wp2_with fail
      have MC1 := Lib.hid (MB.out.put (j := 17) (q' := { x.1 with dlo := numVP (accS wDport x.2) }) _ rfl)
      clear c1 f1
      refine (rdnumber_any b (b + 1) _ _ MC1.out.p).mono ?_
      rintro e wd ⟨rfl, ga, ka⟩
      have MD1 := Lib.hid (MC1.out.call ga ka (short_num MC1.out.s))
      clear ga ka
      have c2 : wd.cell? ⟨g, 18, none⟩ = some (.int .i64 x.1.dhi) := MD1.out.q.cell 18
      have f2 := MD1.out.q.frz 18
      go_wp2_with fail
      go_meet
      rw [E.out]
      exact MD1.out.put (j := 18) _ rfl
    | false =>
      have E : Hid (rDport x = (x.1, accS wDport x.2)) := Lib.hid ((if_neg (by rw [show accB wDport x.2 = false from ha]; simp)).trans (by rw [acc_idle (show accB wDport x.2 = false from ha)]))
      go_wp2_with fail
      go_meet
      rw [E.out]
      exact MA.out
  case rest =>
  rename_i K hK
  exact hK _ _ (rest19 s w b g (rDport x) _ hcut hF.out _ _ _ _ _ _ _ _ _ _ _ _ _ _ _ _ _ _ _ _ _ _ _ _ _ _ _ _ _ _ _ _ _ _ _ _ _ _ _ _ _ _ _ _ _ _ _ _ _ _ _ _ _ _ _ _ _ _ _ _ _ _ _ _ _ _ _ _ _ _ _ _ _ _ _ _ _ _ _ _ _ _ _ _ _ _ _ _ _ _ _ _ _ _ _ _ _ _ _ _ _ _ _ _ _ _ _ _ _ _ _ _ _ _ _ _ _ _ _ _ _ _ _ _ _ _ _ _ _ _ _ _ _ _ _ _ _ _ _ _ _ _ _ _ _ _ _ _ _ _ _ _ _ _ _ _ _ _ _ _ _ _ _ _ _ _ _)

set_option maxRecDepth 100000 in
set_option maxHeartbeats 4000000 in
theorem rest17 (s : ByteArray) (w : World) (b g : Nat) (x : St) (wc : World) (hM : Md 75 b (b + 1) g w x wc) (hF : Fin s (stFails (rDport (rSport x))))
    (z0 z1 z3 z4 z5 z6 z9 z10 z11 z12 z13 z14 z15 z16 z17 z18 z19 z20 z21 z22 z23 z24 z25 z26 z27 z28 z29 z30 z31 z32 z33 z34 z35 z36 z37 z38 z39 z40 z41 z42 z43 z44 z45 z46 z47 z48 z49 z50 z51 z52 z53 z54 z55 z56 z57 z58 z59 z60 z61 z62 z63 z64 z65 z66 z67 z68 z69 z70 z71 z72 z73 z74 z75 z76 z77 z78 z79 z80 z81 z82 z83 z84 z85 z86 z87 z88 z89 z90 z91 z92 z93 z94 z95 z96 z97 z98 z99 z100 z101 z102 z103 z104 z105 z106 z107 z108 z109 z110 z111 z112 z113 z114 z115 z116 z117 z118 z119 z120 z121 z122 z123 z124 z125 z126 z127 z128 z129 z130 z131 z132 z133 z134 z135 z136 z137 z138 z139 z140 z141 z142 z143 z144 z145 z146 z147 z148 z149 z150 z151 z152 z153 z154 z155 z156 z157 z158 z159 z160 z161 z162 z163 z164 z165 z166 z167 z168 z169 : Value) : Code.wp Tryd.prog (code15 17) (bodyPost Tryd.prog Tryd.f15 (QPost (bytes s) w)) ⟨#[z0, z1, .pointer (some ⟨w.heap.size, 0, none⟩), z3, z4, z5, z6, .pointer (some ⟨b, 0, none⟩), .pointer (some ⟨g, 0, none⟩), z9, z10, z11, z12, z13, z14, z15, z16, z17, z18, z19, z20, z21, z22, z23, z24, z25, z26, z27, z28, z29, z30, z31, z32, z33, z34, z35, z36, z37, z38, z39, z40, z41, z42, z43, z44, z45, z46, z47, z48, z49, z50, z51, z52, z53, z54, z55, z56, z57, z58, z59, z60, z61, z62, z63, z64, z65, z66, z67, z68, z69, z70, z71, z72, z73, z74, z75, z76, z77, z78, z79, z80, z81, z82, z83, z84, z85, z86, z87, z88, z89, z90, z91, z92, z93, z94, z95, z96, z97, z98, z99, z100, z101, z102, z103, z104, z105, z106, z107, z108, z109, z110, z111, z112, z113, z114, z115, z116, z117, z118, z119, z120, z121, z122, z123, z124, z125, z126, z127, z128, z129, z130, z131, z132, z133, z134, z135, z136, z137, z138, z139, z140, z141, z142, z143, z144, z145, z146, z147, z148, z149, z150, z151, z152, z153, z154, z155, z156, z157, z158, z159, z160, z161, z162, z163, z164, z165, z166, z167, z168, z169], []⟩ wc := by
  conv => arg 2; whnf
  have MX := Lib.hid hM
  replace hF := Lib.hid hF
  clear hM
  go_wp2_with fail
  refine (ris_any b (b + 1) _ ⟨#[115, 112, 111, 114, 116]⟩ _ MX.out.p).mono ?_
  rintro e wa ⟨rfl, ga, ka⟩
  have MA := Lib.hid (MX.out.call ga ka (short_acc _ MX.out.s))
  clear ga ka
  go_upto_if 122 with fail
  go_cut [] (fun wx => Md 75 b (b + 1) g w (rSport x) wx)
  case first =>
    cases ha : accB (bytes ⟨#[115, 112, 111, 114, 116]⟩) x.2 with
    | true =>
      have E : Hid (rSport x = ({ x.1 with slo := numVP (accS wSport x.2), shi := numVP (numS (accS wSport x.2)) }, numS (numS (accS wSport x.2)))) := Lib.hid (if_pos ha)
      go_wp2_with fail
      refine (rdnumber_any b (b + 1) _ _ MA.out.p).mono ?_
      rintro e wb ⟨rfl, ga, ka⟩
      have MB := Lib.hid (MA.out.call ga ka (short_num MA.out.s))
      clear ga ka
      have c1 : wb.cell? ⟨g, 15, none⟩ = some (.int .i64 x.1.slo) := MB.out.q.cell 15
      have f1 := MB.out.q.frz 15
      go_wp2_with fail
      have MC1 := Lib.hid (MB.out.put (j := 15) (q' := { x.1 with slo := numVP (accS wSport x.2) }) _ rfl)
      clear c1 f1
      refine (rdnumber_any b (b + 1) _ _ MC1.out.p).mono ?_
      rintro e wd ⟨rfl, ga, ka⟩
      have MD1 := Lib.hid (MC1.out.call ga ka (short_num MC1.out.s))
      clear ga ka
      have c2 : wd.cell? ⟨g, 16, none⟩ = some (.int .i64 x.1.shi) := MD1.out.q.cell 16
      have f2 := MD1.out.q.frz 16
      go_wp2_with fail
      go_meet
      rw [E.out]
      exact MD1.out.put (j := 16) _ rfl
    | false =>
      have E : Hid (rSport x = (x.1, accS wSport x.2)) := Lib.hid ((if_neg (by rw [show accB wSport x.2 = false from ha]; simp)).trans (by rw [acc_idle (show accB wSport x.2 = false from ha)]))
      go_wp2_with fail
      go_meet
      rw [E.out]
      exact MA.out
  case rest =>
  rename_i K hK
  exact hK _ _ (rest18 s w b g (rSport x) _ hcut hF.out _ _ _ _ _ _ _ _ _ _ _ _ _ _ _ _ _ _ _ _ _ _ _ _ _ _ _ _ _ _ _ _ _ _ _ _ _ _ _ _ _ _ _ _ _ _ _ _ _ _ _ _ _ _ _ _ _ _ _ _ _ _ _ _ _ _ _ _ _ _ _ _ _ _ _ _ _ _ _ _ _ _ _ _ _ _ _ _ _ _ _ _ _ _ _ _ _ _ _ _ _ _ _ _ _ _ _ _ _ _ _ _ _ _ _ _ _ _ _ _ _ _ _ _ _ _ _ _ _ _ _ _ _ _ _ _ _ _ _ _ _ _ _ _ _ _ _ _ _ _ _ _ _ _ _ _ _ _ _ _ _ _ _ _ _ _ _)
end Go.Proofs.YtnhemjdmleilcaaDoor
