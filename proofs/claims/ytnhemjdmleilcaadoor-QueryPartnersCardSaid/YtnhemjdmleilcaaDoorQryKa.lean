/- The walk of the reference's Parse: the middle statements. Condition: Go's tables and the words lie below the world's blocks (EnvB). -/
import Derived.Test.YtnhemjdmleilcaaDoorQryK
namespace Go.Proofs.YtnhemjdmleilcaaDoor
open Go.RowKit

set_option maxRecDepth 100000 in
set_option maxHeartbeats 4000000 in
theorem rest16 (s : ByteArray) (w : World) (b g : Nat) (x : St) (wc : World) (hM : Md 75 b (b + 1) g w x wc) (hF : Fin s (stFails (rDport (rSport (rProto x)))))
    (z0 z1 z3 z4 z5 z6 z9 z10 z11 z12 z13 z14 z15 z16 z17 z18 z19 z20 z21 z22 z23 z24 z25 z26 z27 z28 z29 z30 z31 z32 z33 z34 z35 z36 z37 z38 z39 z40 z41 z42 z43 z44 z45 z46 z47 z48 z49 z50 z51 z52 z53 z54 z55 z56 z57 z58 z59 z60 z61 z62 z63 z64 z65 z66 z67 z68 z69 z70 z71 z72 z73 z74 z75 z76 z77 z78 z79 z80 z81 z82 z83 z84 z85 z86 z87 z88 z89 z90 z91 z92 z93 z94 z95 z96 z97 z98 z99 z100 z101 z102 z103 z104 z105 z106 z107 z108 z109 z110 z111 z112 z113 z114 z115 z116 z117 z118 z119 z120 z121 z122 z123 z124 z125 z126 z127 z128 z129 z130 z131 z132 z133 z134 z135 z136 z137 z138 z139 z140 z141 z142 z143 z144 z145 z146 z147 z148 z149 z150 z151 z152 z153 z154 z155 z156 z157 z158 z159 z160 z161 z162 z163 z164 z165 z166 z167 z168 z169 : Value) : Code.wp Tryd.prog (code15 16) (bodyPost Tryd.prog Tryd.f15 (QPost (bytes s) w)) ⟨#[z0, z1, .pointer (some ⟨w.heap.size, 0, none⟩), z3, z4, z5, z6, .pointer (some ⟨b, 0, none⟩), .pointer (some ⟨g, 0, none⟩), z9, z10, z11, z12, z13, z14, z15, z16, z17, z18, z19, z20, z21, z22, z23, z24, z25, z26, z27, z28, z29, z30, z31, z32, z33, z34, z35, z36, z37, z38, z39, z40, z41, z42, z43, z44, z45, z46, z47, z48, z49, z50, z51, z52, z53, z54, z55, z56, z57, z58, z59, z60, z61, z62, z63, z64, z65, z66, z67, z68, z69, z70, z71, z72, z73, z74, z75, z76, z77, z78, z79, z80, z81, z82, z83, z84, z85, z86, z87, z88, z89, z90, z91, z92, z93, z94, z95, z96, z97, z98, z99, z100, z101, z102, z103, z104, z105, z106, z107, z108, z109, z110, z111, z112, z113, z114, z115, z116, z117, z118, z119, z120, z121, z122, z123, z124, z125, z126, z127, z128, z129, z130, z131, z132, z133, z134, z135, z136, z137, z138, z139, z140, z141, z142, z143, z144, z145, z146, z147, z148, z149, z150, z151, z152, z153, z154, z155, z156, z157, z158, z159, z160, z161, z162, z163, z164, z165, z166, z167, z168, z169], []⟩ wc := by
  conv => arg 2; whnf
  have MX := Lib.hid hM
  replace hF := Lib.hid hF
  clear hM
  go_wp2_with fail
  refine (ris_any b (b + 1) _ ⟨#[112, 114, 111, 116, 111]⟩ _ MX.out.p).mono ?_
  rintro e wa ⟨rfl, ga, ka⟩
  have MA := Lib.hid (MX.out.call ga ka (short_acc _ MX.out.s))
  clear ga ka
  go_upto_if 116 with fail
  go_cut [] (fun wx => Md 75 b (b + 1) g w (rProto x) wx)
  case first =>
    cases ha : accB (bytes ⟨#[112, 114, 111, 116, 111]⟩) x.2 with
    | true =>
      have E : Hid (rProto x = ({ x.1 with proto := numVP (accS wProto x.2) }, numS (accS wProto x.2))) := Lib.hid (if_pos ha)
      go_wp2_with fail
      refine (rdnumber_any b (b + 1) _ _ MA.out.p).mono ?_
      rintro e wb ⟨rfl, ga, ka⟩
      have MB := Lib.hid (MA.out.call ga ka (short_num MA.out.s))
      clear ga ka
      have c1 : wb.cell? ⟨g, 14, none⟩ = some (.int .i64 x.1.proto) := MB.out.q.cell 14
      have f1 := MB.out.q.frz 14
      go_wp2_with fail
      go_meet
      rw [E.out]
      exact MB.out.put (j := 14) _ rfl
    | false =>
      have E : Hid (rProto x = (x.1, accS wProto x.2)) := Lib.hid ((if_neg (by rw [show accB wProto x.2 = false from ha]; simp)).trans (by rw [acc_idle (show accB wProto x.2 = false from ha)]))
      go_wp2_with fail
      go_meet
      rw [E.out]
      exact MA.out
  case rest =>
  rename_i K hK
  exact hK _ _ (rest17 s w b g (rProto x) _ hcut hF.out _ _ _ _ _ _ _ _ _ _ _ _ _ _ _ _ _ _ _ _ _ _ _ _ _ _ _ _ _ _ _ _ _ _ _ _ _ _ _ _ _ _ _ _ _ _ _ _ _ _ _ _ _ _ _ _ _ _ _ _ _ _ _ _ _ _ _ _ _ _ _ _ _ _ _ _ _ _ _ _ _ _ _ _ _ _ _ _ _ _ _ _ _ _ _ _ _ _ _ _ _ _ _ _ _ _ _ _ _ _ _ _ _ _ _ _ _ _ _ _ _ _ _ _ _ _ _ _ _ _ _ _ _ _ _ _ _ _ _ _ _ _ _ _ _ _ _ _ _ _ _ _ _ _ _ _ _ _ _ _ _ _ _ _ _ _ _)

set_option maxRecDepth 100000 in
set_option maxHeartbeats 4000000 in
theorem rest15 (s : ByteArray) (w : World) (b g : Nat) (x : St) (wc : World) (hM : Md 75 b (b + 1) g w x wc) (hF : Fin s (stFails (rDport (rSport (rProto (stDst x))))))
    (z0 z1 z3 z4 z5 z6 z9 z10 z11 z12 z13 z14 z15 z16 z17 z18 z19 z20 z21 z22 z23 z24 z25 z26 z27 z28 z29 z30 z31 z32 z33 z34 z35 z36 z37 z38 z39 z40 z41 z42 z43 z44 z45 z46 z47 z48 z49 z50 z51 z52 z53 z54 z55 z56 z57 z58 z59 z60 z61 z62 z63 z64 z65 z66 z67 z68 z69 z70 z71 z72 z73 z74 z75 z76 z77 z78 z79 z80 z81 z82 z83 z84 z85 z86 z87 z88 z89 z90 z91 z92 z93 z94 z95 z96 z97 z98 z99 z100 z101 z102 z103 z104 z105 z106 z107 z108 z109 z110 z111 z112 z113 z114 z115 z116 z117 z118 z119 z120 z121 z122 z123 z124 z125 z126 z127 z128 z129 z130 z131 z132 z133 z134 z135 z136 z137 z138 z139 z140 z141 z142 z143 z144 z145 z146 z147 z148 z149 z150 z151 z152 z153 z154 z155 z156 z157 z158 z159 z160 z161 z162 z163 z164 z165 z166 z167 z168 z169 : Value) : Code.wp Tryd.prog (code15 15) (bodyPost Tryd.prog Tryd.f15 (QPost (bytes s) w)) ⟨#[z0, z1, .pointer (some ⟨w.heap.size, 0, none⟩), z3, z4, z5, z6, .pointer (some ⟨b, 0, none⟩), .pointer (some ⟨g, 0, none⟩), z9, z10, z11, z12, z13, z14, z15, z16, z17, z18, z19, z20, z21, z22, z23, z24, z25, z26, z27, z28, z29, z30, z31, z32, z33, z34, z35, z36, z37, z38, z39, z40, z41, z42, z43, z44, z45, z46, z47, z48, z49, z50, z51, z52, z53, z54, z55, z56, z57, z58, z59, z60, z61, z62, z63, z64, z65, z66, z67, z68, z69, z70, z71, z72, z73, z74, z75, z76, z77, z78, z79, z80, z81, z82, z83, z84, z85, z86, z87, z88, z89, z90, z91, z92, z93, z94, z95, z96, z97, z98, z99, z100, z101, z102, z103, z104, z105, z106, z107, z108, z109, z110, z111, z112, z113, z114, z115, z116, z117, z118, z119, z120, z121, z122, z123, z124, z125, z126, z127, z128, z129, z130, z131, z132, z133, z134, z135, z136, z137, z138, z139, z140, z141, z142, z143, z144, z145, z146, z147, z148, z149, z150, z151, z152, z153, z154, z155, z156, z157, z158, z159, z160, z161, z162, z163, z164, z165, z166, z167, z168, z169], []⟩ wc := by
  conv => arg 2; whnf
  have MX := Lib.hid hM
  replace hF := Lib.hid hF
  clear hM
  go_wp2_with fail
  refine (ris_any b (b + 1) _ ⟨#[100, 115, 116]⟩ _ MX.out.p).mono ?_
  rintro e wa ⟨rfl, ga, ka⟩
  have MA := Lib.hid (MX.out.call ga ka (short_acc _ MX.out.s))
  clear ga ka
  go_upto_if 110 with fail
  go_cut [] (fun wx => Md 75 b (b + 1) g w (stDst x) wx)
  case first =>
    cases ha : accB (bytes ⟨#[100, 115, 116]⟩) x.2 with
    | true =>
      have E : Hid (stDst x = ({ x.1 with da := (pfxV (accS wDst x.2)).1, dl := (pfxV (accS wDst x.2)).2 }, pfxS (accS wDst x.2))) := Lib.hid (if_pos ha)
      go_wp2_with fail
      refine (rdprefix_any b (b + 1) w.heap.size _ _ MA.out.p MA.out.e (Nat.le_of_lt MA.out.o.1) MA.out.s).mono ?_
      rintro e wb ⟨rfl, ga, ka⟩
      have MB := Lib.hid (MA.out.call ga ka (short_pfx MA.out.s))
      clear ga ka
      have c1 : wb.cell? ⟨g, 12, none⟩ = some (.int .u32 (x.1.da : Int)) := MB.out.q.cell 12
      have c2 : wb.cell? ⟨g, 13, none⟩ = some (.int .i64 x.1.dl) := MB.out.q.cell 13
      have f1 := MB.out.q.frz 12
      have f2 := MB.out.q.frz 13
      unfold PV
      go_wp2_with fail
      go_meet
      rw [E.out]
      exact (MB.out.put (j := 12) (q' := { x.1 with da := (pfxV (accS wDst x.2)).1 }) _ rfl).put (j := 13) _ rfl
    | false =>
      have E : Hid (stDst x = (x.1, accS wDst x.2)) := Lib.hid ((if_neg (by rw [show accB wDst x.2 = false from ha]; simp)).trans (by rw [acc_idle (show accB wDst x.2 = false from ha)]))
      go_wp2_with fail
      go_meet
      rw [E.out]
      exact MA.out
  case rest =>
  rename_i K hK
  exact hK _ _ (rest16 s w b g (stDst x) _ hcut hF.out _ _ _ _ _ _ _ _ _ _ _ _ _ _ _ _ _ _ _ _ _ _ _ _ _ _ _ _ _ _ _ _ _ _ _ _ _ _ _ _ _ _ _ _ _ _ _ _ _ _ _ _ _ _ _ _ _ _ _ _ _ _ _ _ _ _ _ _ _ _ _ _ _ _ _ _ _ _ _ _ _ _ _ _ _ _ _ _ _ _ _ _ _ _ _ _ _ _ _ _ _ _ _ _ _ _ _ _ _ _ _ _ _ _ _ _ _ _ _ _ _ _ _ _ _ _ _ _ _ _ _ _ _ _ _ _ _ _ _ _ _ _ _ _ _ _ _ _ _ _ _ _ _ _ _ _ _ _ _ _ _ _ _ _ _ _ _)

set_option maxRecDepth 100000 in
set_option maxHeartbeats 4000000 in
theorem rest14 (s : ByteArray) (w : World) (b g : Nat) (x : St) (wc : World) (hM : Md 75 b (b + 1) g w x wc) (hF : Fin s (stFails (rDport (rSport (rProto (stDst (stSrc x)))))))
    (z0 z1 z3 z4 z5 z6 z9 z10 z11 z12 z13 z14 z15 z16 z17 z18 z19 z20 z21 z22 z23 z24 z25 z26 z27 z28 z29 z30 z31 z32 z33 z34 z35 z36 z37 z38 z39 z40 z41 z42 z43 z44 z45 z46 z47 z48 z49 z50 z51 z52 z53 z54 z55 z56 z57 z58 z59 z60 z61 z62 z63 z64 z65 z66 z67 z68 z69 z70 z71 z72 z73 z74 z75 z76 z77 z78 z79 z80 z81 z82 z83 z84 z85 z86 z87 z88 z89 z90 z91 z92 z93 z94 z95 z96 z97 z98 z99 z100 z101 z102 z103 z104 z105 z106 z107 z108 z109 z110 z111 z112 z113 z114 z115 z116 z117 z118 z119 z120 z121 z122 z123 z124 z125 z126 z127 z128 z129 z130 z131 z132 z133 z134 z135 z136 z137 z138 z139 z140 z141 z142 z143 z144 z145 z146 z147 z148 z149 z150 z151 z152 z153 z154 z155 z156 z157 z158 z159 z160 z161 z162 z163 z164 z165 z166 z167 z168 z169 : Value) : Code.wp Tryd.prog (code15 14) (bodyPost Tryd.prog Tryd.f15 (QPost (bytes s) w)) ⟨#[z0, z1, .pointer (some ⟨w.heap.size, 0, none⟩), z3, z4, z5, z6, .pointer (some ⟨b, 0, none⟩), .pointer (some ⟨g, 0, none⟩), z9, z10, z11, z12, z13, z14, z15, z16, z17, z18, z19, z20, z21, z22, z23, z24, z25, z26, z27, z28, z29, z30, z31, z32, z33, z34, z35, z36, z37, z38, z39, z40, z41, z42, z43, z44, z45, z46, z47, z48, z49, z50, z51, z52, z53, z54, z55, z56, z57, z58, z59, z60, z61, z62, z63, z64, z65, z66, z67, z68, z69, z70, z71, z72, z73, z74, z75, z76, z77, z78, z79, z80, z81, z82, z83, z84, z85, z86, z87, z88, z89, z90, z91, z92, z93, z94, z95, z96, z97, z98, z99, z100, z101, z102, z103, z104, z105, z106, z107, z108, z109, z110, z111, z112, z113, z114, z115, z116, z117, z118, z119, z120, z121, z122, z123, z124, z125, z126, z127, z128, z129, z130, z131, z132, z133, z134, z135, z136, z137, z138, z139, z140, z141, z142, z143, z144, z145, z146, z147, z148, z149, z150, z151, z152, z153, z154, z155, z156, z157, z158, z159, z160, z161, z162, z163, z164, z165, z166, z167, z168, z169], []⟩ wc := by
  conv => arg 2; whnf
  have MX := Lib.hid hM
  replace hF := Lib.hid hF
  clear hM
  go_wp2_with fail
  refine (ris_any b (b + 1) _ ⟨#[115, 114, 99]⟩ _ MX.out.p).mono ?_
  rintro e wa ⟨rfl, ga, ka⟩
  have MA := Lib.hid (MX.out.call ga ka (short_acc _ MX.out.s))
  clear ga ka
  go_upto_if 104 with fail
  go_cut [] (fun wx => Md 75 b (b + 1) g w (stSrc x) wx)
  case first =>
    cases ha : accB (bytes ⟨#[115, 114, 99]⟩) x.2 with
    | true =>
      have E : Hid (stSrc x = ({ x.1 with sa := (pfxV (accS wSrc x.2)).1, sl := (pfxV (accS wSrc x.2)).2 }, pfxS (accS wSrc x.2))) := Lib.hid (if_pos ha)
      go_wp2_with fail
      refine (rdprefix_any b (b + 1) w.heap.size _ _ MA.out.p MA.out.e (Nat.le_of_lt MA.out.o.1) MA.out.s).mono ?_
      rintro e wb ⟨rfl, ga, ka⟩
      have MB := Lib.hid (MA.out.call ga ka (short_pfx MA.out.s))
      clear ga ka
      have c1 : wb.cell? ⟨g, 10, none⟩ = some (.int .u32 (x.1.sa : Int)) := MB.out.q.cell 10
      have c2 : wb.cell? ⟨g, 11, none⟩ = some (.int .i64 x.1.sl) := MB.out.q.cell 11
      have f1 := MB.out.q.frz 10
      have f2 := MB.out.q.frz 11
      unfold PV
      go_wp2_with fail
      go_meet
      rw [E.out]
      exact (MB.out.put (j := 10) (q' := { x.1 with sa := (pfxV (accS wSrc x.2)).1 }) _ rfl).put (j := 11) _ rfl
    | false =>
      have E : Hid (stSrc x = (x.1, accS wSrc x.2)) := Lib.hid ((if_neg (by rw [show accB wSrc x.2 = false from ha]; simp)).trans (by rw [acc_idle (show accB wSrc x.2 = false from ha)]))
      go_wp2_with fail
      go_meet
      rw [E.out]
      exact MA.out
  case rest =>
  rename_i K hK
  exact hK _ _ (rest15 s w b g (stSrc x) _ hcut hF.out _ _ _ _ _ _ _ _ _ _ _ _ _ _ _ _ _ _ _ _ _ _ _ _ _ _ _ _ _ _ _ _ _ _ _ _ _ _ _ _ _ _ _ _ _ _ _ _ _ _ _ _ _ _ _ _ _ _ _ _ _ _ _ _ _ _ _ _ _ _ _ _ _ _ _ _ _ _ _ _ _ _ _ _ _ _ _ _ _ _ _ _ _ _ _ _ _ _ _ _ _ _ _ _ _ _ _ _ _ _ _ _ _ _ _ _ _ _ _ _ _ _ _ _ _ _ _ _ _ _ _ _ _ _ _ _ _ _ _ _ _ _ _ _ _ _ _ _ _ _ _ _ _ _ _ _ _ _ _ _ _ _ _ _ _ _ _)

set_option maxRecDepth 100000 in
set_option maxHeartbeats 4000000 in
theorem rest13 (s : ByteArray) (w : World) (b g : Nat) (x : St) (wc : World) (hM : Md 75 b (b + 1) g w x wc) (hF : Fin s (stFails (rDport (rSport (rProto (stDst (stSrc (stEq x))))))))
    (z0 z1 z3 z4 z5 z6 z9 z10 z11 z12 z13 z14 z15 z16 z17 z18 z19 z20 z21 z22 z23 z24 z25 z26 z27 z28 z29 z30 z31 z32 z33 z34 z35 z36 z37 z38 z39 z40 z41 z42 z43 z44 z45 z46 z47 z48 z49 z50 z51 z52 z53 z54 z55 z56 z57 z58 z59 z60 z61 z62 z63 z64 z65 z66 z67 z68 z69 z70 z71 z72 z73 z74 z75 z76 z77 z78 z79 z80 z81 z82 z83 z84 z85 z86 z87 z88 z89 z90 z91 z92 z93 z94 z95 z96 z97 z98 z99 z100 z101 z102 z103 z104 z105 z106 z107 z108 z109 z110 z111 z112 z113 z114 z115 z116 z117 z118 z119 z120 z121 z122 z123 z124 z125 z126 z127 z128 z129 z130 z131 z132 z133 z134 z135 z136 z137 z138 z139 z140 z141 z142 z143 z144 z145 z146 z147 z148 z149 z150 z151 z152 z153 z154 z155 z156 z157 z158 z159 z160 z161 z162 z163 z164 z165 z166 z167 z168 z169 : Value) : Code.wp Tryd.prog (code15 13) (bodyPost Tryd.prog Tryd.f15 (QPost (bytes s) w)) ⟨#[z0, z1, .pointer (some ⟨w.heap.size, 0, none⟩), z3, z4, z5, z6, .pointer (some ⟨b, 0, none⟩), .pointer (some ⟨g, 0, none⟩), z9, z10, z11, z12, z13, z14, z15, z16, z17, z18, z19, z20, z21, z22, z23, z24, z25, z26, z27, z28, z29, z30, z31, z32, z33, z34, z35, z36, z37, z38, z39, z40, z41, z42, z43, z44, z45, z46, z47, z48, z49, z50, z51, z52, z53, z54, z55, z56, z57, z58, z59, z60, z61, z62, z63, z64, z65, z66, z67, z68, z69, z70, z71, z72, z73, z74, z75, z76, z77, z78, z79, z80, z81, z82, z83, z84, z85, z86, z87, z88, z89, z90, z91, z92, z93, z94, z95, z96, z97, z98, z99, z100, z101, z102, z103, z104, z105, z106, z107, z108, z109, z110, z111, z112, z113, z114, z115, z116, z117, z118, z119, z120, z121, z122, z123, z124, z125, z126, z127, z128, z129, z130, z131, z132, z133, z134, z135, z136, z137, z138, z139, z140, z141, z142, z143, z144, z145, z146, z147, z148, z149, z150, z151, z152, z153, z154, z155, z156, z157, z158, z159, z160, z161, z162, z163, z164, z165, z166, z167, z168, z169], []⟩ wc := by
  conv => arg 2; whnf
  have MX := Lib.hid hM
  replace hF := Lib.hid hF
  clear hM
  have k0 : wc.cell? ⟨g, 0, none⟩ = some (.int .i64 x.1.kind) := MX.out.q.cell 0
  go_upto_if 92 with fail
  go_cut [] (fun wx => Md 75 b (b + 1) g w (stEq x) wx)
  case first =>
    by_cases h6 : x.1.kind = 6
    · have E : Hid (stEq x = ({ x.1 with la := (pfxV (expS wLeft x.2)).1, ll := (pfxV (expS wLeft x.2)).2, ra := (pfxV (expS wRight (pfxS (expS wLeft x.2)))).1, rl := (pfxV (expS wRight (pfxS (expS wLeft x.2)))).2 }, pfxS (expS wRight (pfxS (expS wLeft x.2))))) := Lib.hid (if_pos h6)
      have d6 : (x.1.kind == 6) = true := by simpa using h6
      clear h6
      go_wp2_with fail
      refine (rword_any b (b + 1) _ ⟨#[108, 101, 102, 116]⟩ _ MX.out.p).mono ?_
      rintro e wa ⟨rfl, ga, ka⟩
      have N1 := Lib.hid (MX.out.call ga ka (short_exp _ MX.out.s))
      clear ga ka
      go_wp2_with fail
      refine (rdprefix_any b (b + 1) w.heap.size _ _ N1.out.p N1.out.e (Nat.le_of_lt N1.out.o.1) N1.out.s).mono ?_
      rintro e wb ⟨rfl, ga, ka⟩
      have N2 := Lib.hid (N1.out.call ga ka (short_pfx N1.out.s))
      clear ga ka
      have c6 : wb.cell? ⟨g, 6, none⟩ = some (.int .u32 (x.1.la : Int)) := N2.out.q.cell 6
      have c7 : wb.cell? ⟨g, 7, none⟩ = some (.int .i64 x.1.ll) := N2.out.q.cell 7
      have f6 := N2.out.q.frz 6
      have f7 := N2.out.q.frz 7
      unfold PV
      go_wp2_with fail
      have N3 := Lib.hid ((N2.out.put (j := 6) (q' := { x.1 with la := (pfxV (expS wLeft x.2)).1 }) _ rfl).put (j := 7) (q' := { x.1 with la := (pfxV (expS wLeft x.2)).1, ll := (pfxV (expS wLeft x.2)).2 }) _ rfl)
      clear c6 c7 f6 f7
      refine (rword_any b (b + 1) _ ⟨#[114, 105, 103, 104, 116]⟩ _ N3.out.p).mono ?_
      rintro e wd ⟨rfl, ga, ka⟩
      have N4 := Lib.hid (N3.out.call ga ka (short_exp _ N3.out.s))
      clear ga ka
      go_wp2_with fail
      refine (rdprefix_any b (b + 1) w.heap.size _ _ N4.out.p N4.out.e (Nat.le_of_lt N4.out.o.1) N4.out.s).mono ?_
      rintro e we ⟨rfl, ga, ka⟩
      have N5 := Lib.hid (N4.out.call ga ka (short_pfx N4.out.s))
      clear ga ka
      have c8 : we.cell? ⟨g, 8, none⟩ = some (.int .u32 (x.1.ra : Int)) := N5.out.q.cell 8
      have c9 : we.cell? ⟨g, 9, none⟩ = some (.int .i64 x.1.rl) := N5.out.q.cell 9
      have f8 := N5.out.q.frz 8
      have f9 := N5.out.q.frz 9
      unfold PV
      go_wp2_with fail
      go_meet
      rw [E.out]
      exact (N5.out.put (j := 8) (q' := { x.1 with la := (pfxV (expS wLeft x.2)).1, ll := (pfxV (expS wLeft x.2)).2, ra := (pfxV (expS wRight (pfxS (expS wLeft x.2)))).1 }) _ rfl).put (j := 9) _ rfl
    · have E : Hid (stEq x = x) := Lib.hid (if_neg h6)
      have d6 : (x.1.kind == 6) = false := by simpa using h6
      clear h6
      go_wp2_with fail
      go_meet
      rw [E.out]
      exact MX.out
  case rest =>
  rename_i K hK
  exact hK _ _ (rest14 s w b g (stEq x) _ hcut hF.out _ _ _ _ _ _ _ _ _ _ _ _ _ _ _ _ _ _ _ _ _ _ _ _ _ _ _ _ _ _ _ _ _ _ _ _ _ _ _ _ _ _ _ _ _ _ _ _ _ _ _ _ _ _ _ _ _ _ _ _ _ _ _ _ _ _ _ _ _ _ _ _ _ _ _ _ _ _ _ _ _ _ _ _ _ _ _ _ _ _ _ _ _ _ _ _ _ _ _ _ _ _ _ _ _ _ _ _ _ _ _ _ _ _ _ _ _ _ _ _ _ _ _ _ _ _ _ _ _ _ _ _ _ _ _ _ _ _ _ _ _ _ _ _ _ _ _ _ _ _ _ _ _ _ _ _ _ _ _ _ _ _ _ _ _ _ _)

set_option maxRecDepth 100000 in
set_option maxHeartbeats 4000000 in
theorem rest12 (s : ByteArray) (w : World) (b g : Nat) (x : St) (wc : World) (hM : Md 75 b (b + 1) g w x wc) (hF : Fin s (stFails (rDport (rSport (rProto (stDst (stSrc (stEq (stVia x)))))))))
    (z0 z1 z3 z4 z5 z6 z9 z10 z11 z12 z13 z14 z15 z16 z17 z18 z19 z20 z21 z22 z23 z24 z25 z26 z27 z28 z29 z30 z31 z32 z33 z34 z35 z36 z37 z38 z39 z40 z41 z42 z43 z44 z45 z46 z47 z48 z49 z50 z51 z52 z53 z54 z55 z56 z57 z58 z59 z60 z61 z62 z63 z64 z65 z66 z67 z68 z69 z70 z71 z72 z73 z74 z75 z76 z77 z78 z79 z80 z81 z82 z83 z84 z85 z86 z87 z88 z89 z90 z91 z92 z93 z94 z95 z96 z97 z98 z99 z100 z101 z102 z103 z104 z105 z106 z107 z108 z109 z110 z111 z112 z113 z114 z115 z116 z117 z118 z119 z120 z121 z122 z123 z124 z125 z126 z127 z128 z129 z130 z131 z132 z133 z134 z135 z136 z137 z138 z139 z140 z141 z142 z143 z144 z145 z146 z147 z148 z149 z150 z151 z152 z153 z154 z155 z156 z157 z158 z159 z160 z161 z162 z163 z164 z165 z166 z167 z168 z169 : Value) : Code.wp Tryd.prog (code15 12) (bodyPost Tryd.prog Tryd.f15 (QPost (bytes s) w)) ⟨#[z0, z1, .pointer (some ⟨w.heap.size, 0, none⟩), z3, z4, z5, z6, .pointer (some ⟨b, 0, none⟩), .pointer (some ⟨g, 0, none⟩), z9, z10, z11, z12, z13, z14, z15, z16, z17, z18, z19, z20, z21, z22, z23, z24, z25, z26, z27, z28, z29, z30, z31, z32, z33, z34, z35, z36, z37, z38, z39, z40, z41, z42, z43, z44, z45, z46, z47, z48, z49, z50, z51, z52, z53, z54, z55, z56, z57, z58, z59, z60, z61, z62, z63, z64, z65, z66, z67, z68, z69, z70, z71, z72, z73, z74, z75, z76, z77, z78, z79, z80, z81, z82, z83, z84, z85, z86, z87, z88, z89, z90, z91, z92, z93, z94, z95, z96, z97, z98, z99, z100, z101, z102, z103, z104, z105, z106, z107, z108, z109, z110, z111, z112, z113, z114, z115, z116, z117, z118, z119, z120, z121, z122, z123, z124, z125, z126, z127, z128, z129, z130, z131, z132, z133, z134, z135, z136, z137, z138, z139, z140, z141, z142, z143, z144, z145, z146, z147, z148, z149, z150, z151, z152, z153, z154, z155, z156, z157, z158, z159, z160, z161, z162, z163, z164, z165, z166, z167, z168, z169], []⟩ wc := by
  conv => arg 2; whnf
  have MX := Lib.hid hM
  replace hF := Lib.hid hF
  clear hM
  have k0 : wc.cell? ⟨g, 0, none⟩ = some (.int .i64 x.1.kind) := MX.out.q.cell 0
  go_upto_if 84 with fail
  go_cut [] (fun wx => Md 75 b (b + 1) g w (stVia x) wx)
  case first =>
    by_cases h3 : x.1.kind = 3
    · have E : Hid (stVia x = ({ x.1 with via := nxtV (expS wVia x.2) }, nxtS (expS wVia x.2))) := Lib.hid (if_pos h3)
      have d3 : (x.1.kind == 3) = true := by simpa using h3
      clear h3
      go_wp2_with fail
      refine (rword_any b (b + 1) _ ⟨#[118, 105, 97]⟩ _ MX.out.p).mono ?_
      rintro e wa ⟨rfl, ga, ka⟩
      have N1 := Lib.hid (MX.out.call ga ka (short_exp _ MX.out.s))
      clear ga ka
      go_wp2_with fail
      refine (rtake_any b (b + 1) _ _ N1.out.p).mono ?_
      rintro e wb ⟨rfl, ga, ka⟩
      have N2 := Lib.hid (N1.out.call ga ka (short_nxt N1.out.s))
      clear ga ka
      have c5 : wb.cell? ⟨g, 5, none⟩ = some (.string (str x.1.via)) := N2.out.q.cell 5
      have f5 := N2.out.q.frz 5
      unfold strV
      go_wp2_with fail
      go_meet
      rw [E.out]
      exact N2.out.put (j := 5) _ rfl
    · have E : Hid (stVia x = x) := Lib.hid (if_neg h3)
      have d3 : (x.1.kind == 3) = false := by simpa using h3
      clear h3
      go_wp2_with fail
      go_meet
      rw [E.out]
      exact MX.out
  case rest =>
  rename_i K hK
  exact hK _ _ (rest13 s w b g (stVia x) _ hcut hF.out _ _ _ _ _ _ _ _ _ _ _ _ _ _ _ _ _ _ _ _ _ _ _ _ _ _ _ _ _ _ _ _ _ _ _ _ _ _ _ _ _ _ _ _ _ _ _ _ _ _ _ _ _ _ _ _ _ _ _ _ _ _ _ _ _ _ _ _ _ _ _ _ _ _ _ _ _ _ _ _ _ _ _ _ _ _ _ _ _ _ _ _ _ _ _ _ _ _ _ _ _ _ _ _ _ _ _ _ _ _ _ _ _ _ _ _ _ _ _ _ _ _ _ _ _ _ _ _ _ _ _ _ _ _ _ _ _ _ _ _ _ _ _ _ _ _ _ _ _ _ _ _ _ _ _ _ _ _ _ _ _ _ _ _ _ _ _)

set_option maxRecDepth 100000 in
set_option maxHeartbeats 4000000 in
theorem rest8 (s : ByteArray) (w : World) (b g : Nat) (x : St) (wc : World) (hM : Md 75 b (b + 1) g w x wc) (hF : Fin s (stFails (rDport (rSport (rProto (stDst (stSrc (stEq (stVia (stTo (stFrom x))))))))))) (hk0 : x.1.kind ≠ 0)
    (z0 z1 z3 z4 z5 z6 z9 z10 z11 z12 z13 z14 z15 z16 z17 z18 z19 z20 z21 z22 z23 z24 z25 z26 z27 z28 z29 z30 z31 z32 z33 z34 z35 z36 z37 z38 z39 z40 z41 z42 z43 z44 z45 z46 z47 z48 z49 z50 z51 z52 z53 z54 z55 z56 z57 z58 z59 z60 z61 z62 z63 z64 z65 z66 z67 z68 z69 z70 z71 z72 z73 z74 z75 z76 z77 z78 z79 z80 z81 z82 z83 z84 z85 z86 z87 z88 z89 z90 z91 z92 z93 z94 z95 z96 z97 z98 z99 z100 z101 z102 z103 z104 z105 z106 z107 z108 z109 z110 z111 z112 z113 z114 z115 z116 z117 z118 z119 z120 z121 z122 z123 z124 z125 z126 z127 z128 z129 z130 z131 z132 z133 z134 z135 z136 z137 z138 z139 z140 z141 z142 z143 z144 z145 z146 z147 z148 z149 z150 z151 z152 z153 z154 z155 z156 z157 z158 z159 z160 z161 z162 z163 z164 z165 z166 z167 z168 z169 : Value) : Code.wp Tryd.prog (code15 8) (bodyPost Tryd.prog Tryd.f15 (QPost (bytes s) w)) ⟨#[z0, z1, .pointer (some ⟨w.heap.size, 0, none⟩), z3, z4, z5, z6, .pointer (some ⟨b, 0, none⟩), .pointer (some ⟨g, 0, none⟩), z9, z10, z11, z12, z13, z14, z15, z16, z17, z18, z19, z20, z21, z22, z23, z24, z25, z26, z27, z28, z29, z30, z31, z32, z33, z34, z35, z36, z37, z38, z39, z40, z41, z42, z43, z44, z45, z46, z47, z48, z49, z50, z51, z52, z53, z54, z55, z56, z57, z58, z59, z60, z61, z62, z63, z64, z65, z66, z67, z68, z69, z70, z71, z72, z73, z74, z75, z76, z77, z78, z79, z80, z81, z82, z83, z84, z85, z86, z87, z88, z89, z90, z91, z92, z93, z94, z95, z96, z97, z98, z99, z100, z101, z102, z103, z104, z105, z106, z107, z108, z109, z110, z111, z112, z113, z114, z115, z116, z117, z118, z119, z120, z121, z122, z123, z124, z125, z126, z127, z128, z129, z130, z131, z132, z133, z134, z135, z136, z137, z138, z139, z140, z141, z142, z143, z144, z145, z146, z147, z148, z149, z150, z151, z152, z153, z154, z155, z156, z157, z158, z159, z160, z161, z162, z163, z164, z165, z166, z167, z168, z169], []⟩ wc := by
  conv => arg 2; whnf
  have MX := Lib.hid hM
  replace hF := Lib.hid hF
  clear hM
  have n0 : (x.1.kind == 0) = false := by simpa using hk0
  clear hk0
  have ck : wc.cell? ⟨g, 0, none⟩ = some (.int .i64 x.1.kind) := MX.out.q.cell 0
  go_wp2_with fail
  refine (rword_any b (b + 1) _ ⟨#[102, 114, 111, 109]⟩ _ MX.out.p).mono ?_
  rintro e w7 ⟨rfl, ga, ka⟩
  have M1 := Lib.hid (MX.out.call ga ka (short_exp _ MX.out.s))
  clear ga ka ck
  go_wp2_with fail
  refine (rdplace_any b (b + 1) _ _ M1.out.p).mono ?_
  rintro e w8 ⟨rfl, ga, ka⟩
  have M2 := Lib.hid (M1.out.call ga ka (short_plc M1.out.s))
  clear ga ka
  have c1 : w8.cell? ⟨g, 1, none⟩ = some (.string (str x.1.fr)) := M2.out.q.cell 1
  have c2 : w8.cell? ⟨g, 2, none⟩ = some (.string (str x.1.fi)) := M2.out.q.cell 2
  have f1 := M2.out.q.frz 1
  have f2 := M2.out.q.frz 2
  have M3 : Hid (Md 75 b (b + 1) g w (stFrom x) ((w8.setCell ⟨g, 1, none⟩ (strV (plcR (expS wFrom x.2)))).setCell ⟨g, 2, none⟩ (strV (plcI (expS wFrom x.2))))) :=
    Lib.hid ((M2.out.put (j := 1) (q' := { x.1 with fr := plcR (expS wFrom x.2) }) _ rfl).put (j := 2) (q' := (stFrom x).1) _ rfl)
  unfold strV at M3
  have k0 : w8.cell? ⟨g, 0, none⟩ = some (.int .i64 x.1.kind) := M2.out.q.cell 0
  unfold strV
  go_wp2_with fail
  refine (raimed_any _ _).mono ?_
  rintro e w9 ⟨rfl, rfl⟩
  go_upto_if 72 with fail
  go_cut [] (fun wx => Md 75 b (b + 1) g w (stTo (stFrom x)) wx)
  case first =>
    cases ha : aimedB x.1.kind with
    | true =>
      go_wp2_with fail
      refine (rword_any b (b + 1) _ ⟨#[116, 111]⟩ _ M3.out.p).mono ?_
      rintro e wa ⟨rfl, ga, ka⟩
      have N1 := Lib.hid (M3.out.call ga ka (short_exp _ M3.out.s))
      clear ga ka
      go_wp2_with fail
      refine (rdplace_any b (b + 1) _ _ N1.out.p).mono ?_
      rintro e wb ⟨rfl, ga, ka⟩
      have N2 := Lib.hid (N1.out.call ga ka (short_plc N1.out.s))
      clear ga ka
      have c3 : wb.cell? ⟨g, 3, none⟩ = some (.string (str (stFrom x).1.tr)) := N2.out.q.cell 3
      have c4 : wb.cell? ⟨g, 4, none⟩ = some (.string (str (stFrom x).1.ti)) := N2.out.q.cell 4
      have f3 := N2.out.q.frz 3
      have f4 := N2.out.q.frz 4
      unfold strV
      go_wp2_with fail
      go_meet
      have e : stTo (stFrom x) = ({ (stFrom x).1 with tr := plcR (expS wTo (stFrom x).2), ti := plcI (expS wTo (stFrom x).2) }, plcS (expS wTo (stFrom x).2)) := if_pos ha
      rw [e]
      exact (N2.out.put (j := 3) (q' := { (stFrom x).1 with tr := plcR (expS wTo (stFrom x).2) }) _ rfl).put (j := 4) _ rfl
    | false =>
      go_wp2_with fail
      go_meet
      have e : stTo (stFrom x) = stFrom x := if_neg (by show ¬ aimedB x.1.kind = true; rw [ha]; simp)
      rw [e]
      exact M3.out
  case rest =>
  rename_i K hK
  exact hK _ _ (rest12 s w b g (stTo (stFrom x)) _ hcut hF.out _ _ _ _ _ _ _ _ _ _ _ _ _ _ _ _ _ _ _ _ _ _ _ _ _ _ _ _ _ _ _ _ _ _ _ _ _ _ _ _ _ _ _ _ _ _ _ _ _ _ _ _ _ _ _ _ _ _ _ _ _ _ _ _ _ _ _ _ _ _ _ _ _ _ _ _ _ _ _ _ _ _ _ _ _ _ _ _ _ _ _ _ _ _ _ _ _ _ _ _ _ _ _ _ _ _ _ _ _ _ _ _ _ _ _ _ _ _ _ _ _ _ _ _ _ _ _ _ _ _ _ _ _ _ _ _ _ _ _ _ _ _ _ _ _ _ _ _ _ _ _ _ _ _ _ _ _ _ _ _ _ _ _ _ _ _ _)
end Go.Proofs.YtnhemjdmleilcaaDoor
