/- The walk of checkOrigins. Conditions: the router lies in memory, addresses are numbers below 2^32. -/
import Derived.Test.YtmddfkpkddemnaaGreatDoorUal
import Derived.Lib.MinMax
namespace Go.Proofs.YtmddfkpkddemnaaGreatDoor
open Go.RowKit
theorem Tryz.rowDV : (Tryz.prog.underlying 33).map TypeDesc.isRow = some true := by kernel_rfl
theorem Tryz.sizeDV : (Tryz.prog.info? 33).map (·.size) = some 5 := by kernel_rfl
def dnF (r : Rt) : Int := if lacksB (·.name) r.lists r.dvIn || lacksB (·.name) r.lists r.dvOut then 5 else 0
def dvE (r : Rt) : Int := if r.dvOn then (if withinB r.dvAdmin 1 255 then (if dnF r = 0 then redE r.maps 4 1 15 0 r.dvRed else dnF r) else 1) else if !(r.dvAdmin == 0) || !r.dvIn.isEmpty || !r.dvOut.isEmpty || decide ((0 : Int) < r.dvRed.length) then 1 else 0
set_option maxRecDepth 100000 in
set_option maxHeartbeats 4000000 in
theorem checkDistanceVector_any (r : Rt) (w : World) (B : Nat) (h : r.at w B) (hB : B ≤ w.heap.size) : Calls Tryz.prog 98 #[.agg r.C] w fun e w' => e = .returned (.int .i64 (dvE r)) ∧ Below w.heap.size w w' := by
  have H0 := RB.start r w
  have HR := Lib.hid h
  have HBB := Lib.hid hB
  obtain ⟨A2, c2, hv2, hle2, -⟩ := h.hdvRed
  have HLR := h.hdvRed
  rw [hv2] at HLR
  replace HLR := Lib.hid HLR
  clear h hB
  have HO : (#[.bool r.dvOn, .int .i64 r.dvAdmin, .string (str r.dvIn), .string (str r.dvOut), .slice A2 r.dvRed.length c2] : Array Value).all (·.oneCell') = true := by
    rw [Array.all_eq_true_iff_forall_mem]
    intro v hv
    simp only [List.mem_toArray, List.mem_cons, List.not_mem_nil, or_false] at hv
    rcases hv with rfl | rfl | rfl | rfl | rfl <;> rfl
  have HS : (w.alloc (.cells r.C 41)).rangeAt w.heap.size 12 (#[.bool r.dvOn, .int .i64 r.dvAdmin, .string (str r.dvIn), .string (str r.dvOut), .slice A2 r.dvRed.length c2] : Array Value).toList := H0.h.sub 12 #[.bool r.dvOn, .int .i64 r.dvAdmin, .string (str r.dvIn), .string (str r.dvOut), .slice A2 r.dvRed.length c2] (fun j hj => by
    have hj' : j < 5 := hj
    rcases (show j = 0 ∨ j = 1 ∨ j = 2 ∨ j = 3 ∨ j = 4 by omega) with rfl | rfl | rfl | rfl | rfl <;> first | rfl | (show some _ = some _; simp only [Option.some.injEq]; assumption))
  clear hv2
  have E : Hid (dvE r = if r.dvOn then (if withinB r.dvAdmin 1 255 then (if dnF r = 0 then redE r.maps 4 1 15 0 r.dvRed else dnF r) else 1) else if !(r.dvAdmin == 0) || !r.dvIn.isEmpty || !r.dvOut.isEmpty || decide ((0 : Int) < r.dvRed.length) then 1 else 0) := Lib.hid rfl
  generalize dvE r = res at E ⊢
  have H0h := Lib.hid H0
  have HSh := Lib.hid HS
  clear H0 HS HO
  go_enter Tryz.func98, Tryz.ntmps98
  go_upto_region 2 with (refine wpList_loadRow rfl 33 _ rfl rfl HSh.out Tryz.rowDV Tryz.sizeDV ?_)
  have H5 : Hid (RBL r w 33 (w.alloc (.cells r.C 41)).heap.size #[.bool r.dvOn, .int .i64 r.dvAdmin, .string (str r.dvIn), .string (str r.dvOut), .slice A2 r.dvRed.length c2] ((w.alloc (.cells r.C 41)).alloc (.cells #[.bool r.dvOn, .int .i64 r.dvAdmin, .string (str r.dvIn), .string (str r.dvOut), .slice A2 r.dvRed.length c2] 33))) := Lib.hid ⟨(H0h.out.keep ((Below.refl _ _).alloc (Nat.le_refl _) _)).h, (H0h.out.keep ((Below.refl _ _).alloc (Nat.le_refl _) _)).b, HasC.new _ _ _⟩
  clear H0h HSh
  generalize hw5 : (w.alloc (.cells r.C 41)).alloc (.cells #[.bool r.dvOn, .int .i64 r.dvAdmin, .string (str r.dvIn), .string (str r.dvOut), .slice A2 r.dvRed.length c2] 33) = w5 at H5 ⊢
  clear hw5
  rw [show (w.alloc (.cells r.C 41)).heap.size = w.heap.size + 1 from by simp] at H5
  generalize w.heap.size + 1 = gl at H5 ⊢
  have lc0 : w5.cell? ⟨gl, 0, none⟩ = some (.bool r.dvOn) := H5.out.l.cell 0
  have lc1 : w5.cell? ⟨gl, 1, none⟩ = some (.int .i64 r.dvAdmin) := H5.out.l.cell 1
  have lc2 : w5.cell? ⟨gl, 2, none⟩ = some (.string (str r.dvIn)) := H5.out.l.cell 2
  have lc3 : w5.cell? ⟨gl, 3, none⟩ = some (.string (str r.dvOut)) := H5.out.l.cell 3
  have lc4 : w5.cell? ⟨gl, 4, none⟩ = some (.slice A2 r.dvRed.length c2) := H5.out.l.cell 4
  cases hon : r.dvOn with
  | false =>
    rw [hon] at lc0
    have EF : Hid (res = if !(r.dvAdmin == 0) || !r.dvIn.isEmpty || !r.dvOut.isEmpty || decide ((0 : Int) < r.dvRed.length) then 1 else 0) := Lib.hid (by rw [E.out, hon]; rfl)
    clear hon E
    by_cases ha : r.dvAdmin = 0
    case neg =>
      have d1 : (r.dvAdmin == 0) = false := by simpa using ha
      have d2 : (r.dvAdmin != 0) = true := by simpa using ha
      clear ha
      go_wp2_with fail
      go_ret
      exact ⟨ret_int (by rw [EF.out, d1]; rfl), H5.out.b⟩
    rw [ha] at lc1
    have EF2 : Hid (res = if !r.dvIn.isEmpty || !r.dvOut.isEmpty || decide ((0 : Int) < r.dvRed.length) then 1 else 0) := Lib.hid (by rw [EF.out, ha]; rfl)
    clear ha EF
    by_cases hi : r.dvIn = []
    case neg =>
      obtain ⟨i1, i2, i3⟩ := ne_str hi
      clear hi
      go_wp2_with fail
      go_ret
      exact ⟨ret_int (by rw [EF2.out, i1]; rfl), H5.out.b⟩
    have tn : (str r.dvIn).toList = [] := by rw [toList_str, hi]
    have EF3 : Hid (res = if !r.dvOut.isEmpty || decide ((0 : Int) < r.dvRed.length) then 1 else 0) := Lib.hid (by rw [EF2.out, hi]; rfl)
    clear hi EF2
    by_cases ho : r.dvOut = []
    case neg =>
      obtain ⟨i1, i2, i3⟩ := ne_str ho
      clear ho
      go_wp2_with fail
      go_ret
      exact ⟨ret_int (by rw [EF3.out, i1]; rfl), H5.out.b⟩
    have tno : (str r.dvOut).toList = [] := by rw [toList_str, ho]
    have EF4 : Hid (res = if decide ((0 : Int) < r.dvRed.length) then 1 else 0) := Lib.hid (by rw [EF3.out, ho]; rfl)
    clear ho EF3 HR HLR
    generalize r.dvRed.length = n2 at *
    by_cases z2 : n2 = 0
    case neg =>
      have z2' : 0 < n2 := by omega
      go_wp2_with fail
      all_goals (go_ret; exact ⟨ret_int (by rw [EF4.out, decide_eq_true (show (0 : Int) < n2 by omega)]; rfl), H5.out.b⟩)
    subst z2
    go_wp2_with fail
    go_ret
    exact ⟨ret_int (by rw [EF4.out]; rfl), H5.out.b⟩
  | true =>
  rw [hon] at lc0
  have ET : Hid (res = if withinB r.dvAdmin 1 255 then (if dnF r = 0 then redE r.maps 4 1 15 0 r.dvRed else dnF r) else 1) := Lib.hid (by rw [E.out, hon]; rfl)
  clear hon E
  cases hw : withinB r.dvAdmin 1 255 with
  | false =>
    go_wp2_with (go_at_call 89; refine (within_any _ _ _ _).mono ?_; rintro e w' ⟨rfl, rfl⟩)
    go_ret
    exact ⟨ret_int (by rw [ET.out, hw]; rfl), H5.out.b⟩
  | true =>
  have HP : Hid (res = if dnF r = 0 then redE r.maps 4 1 15 0 r.dvRed else dnF r) := Lib.hid (by rw [ET.out, hw]; rfl)
  have PE2 : Hid (dnF r = if lacksB (·.name) r.lists r.dvIn || lacksB (·.name) r.lists r.dvOut then 5 else 0) := Lib.hid rfl
  have X5 := Lib.hid H5.out.l
  clear ET lc2 lc3 lc4
  by_cases hi : r.dvIn = []
  · have tn : (str r.dvIn).toList = [] := by rw [toList_str, hi]
    have EI : Hid (lacksB (·.name) r.lists r.dvIn = false) := Lib.hid (by rw [hi]; rfl)
    clear hi
    have xc2 : w5.cell? ⟨gl, 2, none⟩ = some (.string (str r.dvIn)) := X5.out.cell 2
    have xc3 : w5.cell? ⟨gl, 3, none⟩ = some (.string (str r.dvOut)) := X5.out.cell 3
    by_cases ho : r.dvOut = []
    · have tno : (str r.dvOut).toList = [] := by rw [toList_str, ho]
      have F0 : Hid (dnF r = 0) := Lib.hid (by rw [PE2.out, EI.out, ho]; rfl)
      clear ho PE2 EI
      have E2 := Lib.hid (fin_ok HP.out F0.out)
      have l4 : w5.cell? ⟨gl, 4, none⟩ = some (.slice A2 r.dvRed.length c2) := X5.out.cell 4
      go_wp2_with (first | (go_at_call 89; refine (within_any _ _ _ _).mono ?_; rintro e w' ⟨rfl, rfl⟩) | (refine wpList_loadRow rfl 41 _ rfl rfl H5.out.h.range Tryz.rowRt Tryz.sizeRt ?_))
      with_reducible refine (checkRedist_any r r.dvRed (.slice A2 r.dvRed.length c2) 4 1 15 0 _ B (HR.out.below (H5.out.b.mono HBB.out)) (HLR.out.below (H5.out.b.mono HBB.out)) (Nat.le_trans HBB.out H5.out.b.size)).mono ?_
      rintro e wz ⟨rfl, hb⟩
      have HZ := Lib.hid (H5.out.keep hb)
      clear hb
      go_wp2_with fail
      go_ret
      exact ⟨ret_int E2.out.symm, HZ.out.b⟩
    obtain ⟨o1, o2, o3⟩ := ne_str ho
    have PO : Hid (lacksB (·.name) r.lists r.dvOut = decide (idxF (fun y => y.name == r.dvOut) r.lists 0 < 0)) := Lib.hid (by unfold lacksB; rw [o1]; rfl)
    clear ho
    go_wp2_with (first | (go_at_call 89; refine (within_any _ _ _ _).mono ?_; rintro e w' ⟨rfl, rfl⟩) | (refine wpList_unguard (by rfl) (wpList_loadRow rfl 41 _ rfl rfl H5.out.h.range Tryz.rowRt Tryz.sizeRt ?_)))
    with_reducible refine (prefixList_any r r.dvOut w5 B (HR.out.below (H5.out.b.mono HBB.out)) (Nat.le_trans HBB.out H5.out.b.size)).mono ?_
    rintro e w9 ⟨rfl, hb⟩
    have H9 := Lib.hid (H5.out.keep hb)
    have X9 := Lib.hid (X5.out.keep hb)
    clear hb 
    by_cases hd : idxF (fun y => y.name == r.dvOut) r.lists 0 < 0
    · have di := decide_eq_true hd
      have F1 : Hid (dnF r = 5) := Lib.hid (by rw [PE2.out, EI.out, PO.out, di]; rfl)
      clear hd
      have E2 := Lib.hid (fin_err HP.out F1.out (by decide))
      go_wp2_with fail
      go_ret
      exact ⟨ret_int E2.out.symm, H9.out.b⟩
    have di2 := decide_eq_false hd
    have F0 : Hid (dnF r = 0) := Lib.hid (by rw [PE2.out, EI.out, PO.out, di2]; rfl)
    clear hd PE2 EI PO
    have E2 := Lib.hid (fin_ok HP.out F0.out)
    have l4 : w9.cell? ⟨gl, 4, none⟩ = some (.slice A2 r.dvRed.length c2) := X9.out.cell 4
    go_wp2_with (first | fail | (refine wpList_loadRow rfl 41 _ rfl rfl H9.out.h.range Tryz.rowRt Tryz.sizeRt ?_))
    with_reducible refine (checkRedist_any r r.dvRed (.slice A2 r.dvRed.length c2) 4 1 15 0 _ B (HR.out.below (H9.out.b.mono HBB.out)) (HLR.out.below (H9.out.b.mono HBB.out)) (Nat.le_trans HBB.out H9.out.b.size)).mono ?_
    rintro e wz ⟨rfl, hb⟩
    have HZ := Lib.hid (H9.out.keep hb)
    clear hb
    go_wp2_with fail
    go_ret
    exact ⟨ret_int E2.out.symm, HZ.out.b⟩
  obtain ⟨i1, i2, i3⟩ := ne_str hi
  have PI : Hid (lacksB (·.name) r.lists r.dvIn = decide (idxF (fun y => y.name == r.dvIn) r.lists 0 < 0)) := Lib.hid (by unfold lacksB; rw [i1]; rfl)
  clear hi
  have xc2 : w5.cell? ⟨gl, 2, none⟩ = some (.string (str r.dvIn)) := X5.out.cell 2
  have xc3 : w5.cell? ⟨gl, 3, none⟩ = some (.string (str r.dvOut)) := X5.out.cell 3
  go_wp2_with (first | (go_at_call 89; refine (within_any _ _ _ _).mono ?_; rintro e w' ⟨rfl, rfl⟩) | (refine wpList_unguard (by rfl) (wpList_loadRow rfl 41 _ rfl rfl H5.out.h.range Tryz.rowRt Tryz.sizeRt ?_)))
  with_reducible refine (prefixList_any r r.dvIn w5 B (HR.out.below (H5.out.b.mono HBB.out)) (Nat.le_trans HBB.out H5.out.b.size)).mono ?_
  rintro e w8 ⟨rfl, hb⟩
  have H8 := Lib.hid (H5.out.keep hb)
  have X8 := Lib.hid (X5.out.keep hb)
  clear hb 
  by_cases hd : idxF (fun y => y.name == r.dvIn) r.lists 0 < 0
  · have di := decide_eq_true hd
    have F1 : Hid (dnF r = 5) := Lib.hid (by rw [PE2.out, PI.out, di]; rfl)
    clear hd
    have E2 := Lib.hid (fin_err HP.out F1.out (by decide))
    go_wp2_with fail
    go_ret
    exact ⟨ret_int E2.out.symm, H8.out.b⟩
  have di := decide_eq_false hd
  have EI : Hid (lacksB (·.name) r.lists r.dvIn = false) := Lib.hid (by rw [PI.out, di])
  clear hd PI
  have xc2 : w8.cell? ⟨gl, 2, none⟩ = some (.string (str r.dvIn)) := X8.out.cell 2
  have xc3 : w8.cell? ⟨gl, 3, none⟩ = some (.string (str r.dvOut)) := X8.out.cell 3
  by_cases ho : r.dvOut = []
  · have tno : (str r.dvOut).toList = [] := by rw [toList_str, ho]
    have F0 : Hid (dnF r = 0) := Lib.hid (by rw [PE2.out, EI.out, ho]; rfl)
    clear ho PE2 EI
    have E2 := Lib.hid (fin_ok HP.out F0.out)
    have l4 : w8.cell? ⟨gl, 4, none⟩ = some (.slice A2 r.dvRed.length c2) := X8.out.cell 4
    go_wp2_with (first | fail | (refine wpList_loadRow rfl 41 _ rfl rfl H8.out.h.range Tryz.rowRt Tryz.sizeRt ?_))
    with_reducible refine (checkRedist_any r r.dvRed (.slice A2 r.dvRed.length c2) 4 1 15 0 _ B (HR.out.below (H8.out.b.mono HBB.out)) (HLR.out.below (H8.out.b.mono HBB.out)) (Nat.le_trans HBB.out H8.out.b.size)).mono ?_
    rintro e wz ⟨rfl, hb⟩
    have HZ := Lib.hid (H8.out.keep hb)
    clear hb
    go_wp2_with fail
    go_ret
    exact ⟨ret_int E2.out.symm, HZ.out.b⟩
  obtain ⟨o1, o2, o3⟩ := ne_str ho
  have PO : Hid (lacksB (·.name) r.lists r.dvOut = decide (idxF (fun y => y.name == r.dvOut) r.lists 0 < 0)) := Lib.hid (by unfold lacksB; rw [o1]; rfl)
  clear ho
  go_wp2_with (first | fail | (refine wpList_unguard (by rfl) (wpList_loadRow rfl 41 _ rfl rfl H8.out.h.range Tryz.rowRt Tryz.sizeRt ?_)))
  with_reducible refine (prefixList_any r r.dvOut w8 B (HR.out.below (H8.out.b.mono HBB.out)) (Nat.le_trans HBB.out H8.out.b.size)).mono ?_
  rintro e w9 ⟨rfl, hb⟩
  have H9 := Lib.hid (H8.out.keep hb)
  have X9 := Lib.hid (X8.out.keep hb)
  clear hb 
  by_cases hd : idxF (fun y => y.name == r.dvOut) r.lists 0 < 0
  · have di := decide_eq_true hd
    have F1 : Hid (dnF r = 5) := Lib.hid (by rw [PE2.out, EI.out, PO.out, di]; rfl)
    clear hd
    have E2 := Lib.hid (fin_err HP.out F1.out (by decide))
    go_wp2_with fail
    go_ret
    exact ⟨ret_int E2.out.symm, H9.out.b⟩
  have di2 := decide_eq_false hd
  have F0 : Hid (dnF r = 0) := Lib.hid (by rw [PE2.out, EI.out, PO.out, di2]; rfl)
  clear hd PE2 EI PO
  have E2 := Lib.hid (fin_ok HP.out F0.out)
  have l4 : w9.cell? ⟨gl, 4, none⟩ = some (.slice A2 r.dvRed.length c2) := X9.out.cell 4
  go_wp2_with (first | fail | (refine wpList_loadRow rfl 41 _ rfl rfl H9.out.h.range Tryz.rowRt Tryz.sizeRt ?_))
  with_reducible refine (checkRedist_any r r.dvRed (.slice A2 r.dvRed.length c2) 4 1 15 0 _ B (HR.out.below (H9.out.b.mono HBB.out)) (HLR.out.below (H9.out.b.mono HBB.out)) (Nat.le_trans HBB.out H9.out.b.size)).mono ?_
  rintro e wz ⟨rfl, hb⟩
  have HZ := Lib.hid (H9.out.keep hb)
  clear hb
  go_wp2_with fail
  go_ret
  exact ⟨ret_int E2.out.symm, HZ.out.b⟩
end Go.Proofs.YtmddfkpkddemnaaGreatDoor
namespace Go.Proofs.YtmddfkpkddemnaaGreatDoor
open Go.RowKit
theorem SlV.take {α : Type} {w : World} {B n : Nat} {cells : α → Array Value} {A : Option Addr} {c : Nat} {xs : List α} (hn : 0 < n) (hl : ∀ x, (cells x).toList.length = n) (h : SlV w B n cells (.slice A xs.length c) xs) {k : Nat} (hk : k ≤ xs.length) : SlV w B n cells (.slice A k c) (xs.take k) := by
  obtain ⟨A', c', e, hle, A2, c2, e2, hm, hlen, hA, h⟩ := h
  injection e with e1 _ e3
  subst e1 e3
  injection e2 with e1 _ e3
  subst e1 e3
  have hkl : (xs.take k).length = k := by rw [List.length_take]; omega
  refine ⟨A, c, by rw [hkl], by omega, A, c, by rw [hkl], by omega, ?_, hA, fun hp => ?_⟩
  · rw [rows_len (fun x => (cells x).toList) hl]
  · rw [hkl] at hp
    obtain ⟨g, o, e, hg, hc⟩ := h (by omega)
    refine ⟨g, o, e, hg, fun j u hu => hc j u ?_⟩
    rw [rows_get (fun x => (cells x).toList) hn hl] at hu ⊢
    rcases Nat.lt_or_ge (j / n) k with hj | hj
    · rwa [List.getElem?_take_of_lt hj] at hu
    · rw [List.getElem?_eq_none (by rw [hkl]; exact hj)] at hu; cases hu
theorem idxF_end {α : Type} {p : α → Bool} {l : List α} {k : Nat} {R : Int} (h : ¬ k < l.length) (hR : idxF p (l.drop k) k = R) : R = -1 := by
  rw [List.drop_of_length_le (by omega), idxF] at hR; exact hR.symm
theorem idxF_step {α : Type} {p : α → Bool} {l : List α} {k : Nat} {R : Int} (h : k < l.length) (hR : idxF p (l.drop k) k = R) : R = if p l[k] then (k : Int) else idxF p (l.drop (k + 1)) (k + 1) := by
  rw [drop_at h, idxF] at hR; exact hR.symm
theorem idxF_any {α : Type} (p : α → Bool) : ∀ (l : List α) (i : Nat), decide (0 ≤ idxF p l i) = l.any p
  | [], i => by simp [idxF]
  | y :: r, i => by
    rw [idxF, List.any_cons]
    cases p y with
    | true => simp
    | false => simpa using idxF_any p r (i + 1)
/-- A block that was just made, all that was there before. -/
structure RQ (T : TypeId) (cs : Array Value) (w0 w : World) : Prop where
  h : HasC T w0.heap.size cs w
  b : Below w0.heap.size w0 w
theorem RQ.keep {T : TypeId} {cs : Array Value} {w0 w w' : World} (h : RQ T cs w0 w) (hb : Below w.heap.size w w') : RQ T cs w0 w' := ⟨h.h.keep hb, h.b.trans (hb.mono h.b.size)⟩
theorem RQ.start (T : TypeId) (cs : Array Value) (w : World) : RQ T cs w (w.alloc (.cells cs T)) := ⟨HasC.new w _ _, (Below.refl _ _).alloc (Nat.le_refl _) _⟩
def samePf (x y : Pf) : Bool := decide (x.pa = y.pa ∧ x.pl = y.pl)
set_option maxRecDepth 100000 in
set_option maxHeartbeats 2000000 in
theorem indexPf_any (xs : List Pf) (v : Value) (p : Pf) (w : World) (B : Nat) (hl : SlV w B 2 Pf.C v xs) (hB : B ≤ w.heap.size) : Calls Tryz.prog 209 #[v, .agg #[.int .u32 (p.pa : Int), .int .i64 p.pl]] w fun e w' => e = .returned (.int .i64 (idxF (samePf p) xs 0)) ∧ Below w.heap.size w w' := by
  have H0 := Lib.hid (RQ.start 71 #[.int .u32 (p.pa : Int), .int .i64 p.pl] w)
  have HLS := Lib.hid hl
  have HBB := Lib.hid hB
  obtain ⟨A, c, hv, hle, -⟩ := hl
  have HV := Lib.hid hv
  rw [hv]
  obtain ⟨res, hres⟩ : ∃ res, idxF (samePf p) xs 0 = res := ⟨_, rfl⟩
  rw [hres]
  have hlen : xs.length ≤ 9223372036854775807 := by have := HLS.out.len; simp only [maxLen] at this; exact Nat.le_trans this (by omega)
  clear hv hB
  go_enter Tryz.func209, Tryz.ntmps209
  go_wp2_with fail
  go_loopg [8] xs.length (fun gh ix wr => ∃ k : Nat, k + gh = xs.length ∧ ix = .int .i64 k ∧ Hid (RQ 71 #[.int .u32 (p.pa : Int), .int .i64 p.pl] w wr) ∧ Hid (idxF (samePf p) (xs.drop k) k = res))
  case atStart => exact ⟨0, by omega, rfl, H0, Lib.hid hres⟩
  case round =>
    obtain ⟨k, hk, rfl, HW, HG⟩ := hrel
    clear H0 hres
    by_cases hlt : k < xs.length
    case neg =>
      have E := Lib.hid (idxF_end hlt HG.out)
      go_wp2_with fail
      go_ret
      exact ⟨ret_int E.out.symm, HW.out.b⟩
    have HAT := Lib.hid (idxF_step hlt HG.out)
    obtain ⟨g, o, c', e', -, hg, R0⟩ := HLS.out.elem (n := 2) (by decide) (fun _ => rfl) hlt
    rw [HV.out] at e'
    injection e' with e1 e2 e3
    subst e1 e3
    have r1 := rangeBelow R0 (HW.out.b.mono HBB.out) hg
    clear R0 HG e2
    generalize xs[k] = y at HAT r1
    have k0 : wr.cell? ⟨g, o + k * 2, none⟩ = some (.int .u32 (y.pa : Int)) := r1 0 _ rfl
    have k1 : wr.cell? ⟨g, o + k * 2 + 1, none⟩ = some (.int .i64 y.pl) := r1 1 _ rfl
    have v0 : wr.cell? ⟨w.heap.size, 0, none⟩ = some (.int .u32 (p.pa : Int)) := HW.out.h.cell 0
    have v1 : wr.cell? ⟨w.heap.size, 1, none⟩ = some (.int .i64 p.pl) := HW.out.h.cell 1
    have qe : ∀ w, (binOp .eql 71 (.agg #[.int .u32 (p.pa : Int), .int .i64 p.pl]) (.agg #[.int .u32 (y.pa : Int), .int .i64 y.pl])).run Tryz.prog w = .ok (.bool (samePf p y)) w := fun w => pfx_eql p.pa y.pa p.pl y.pl w
    have g := Tryz.pfxGuard
    have hki : (k : Int) < xs.length := by omega
    clear r1
    generalize samePf p y = b at qe HAT
    go_wp2_with fail
    go_quiet (fail)
    cases b with
    | true =>
      go_wp2_with fail
      go_ret
      exact ⟨ret_int (by rw [HAT.out]; rfl), (HW.out.keep (drewN_below _ _)).b⟩
    | false =>
      have H9 := Lib.hid (HW.out.keep (drewN_below _ nq))
      go_wp2_with fail
      go_roundg (xs.length - (k + 1))
      case measure => omega
      case rel => exact ⟨k + 1, by omega, by go_num, H9, Lib.hid (by rw [HAT.out]; rfl)⟩
set_option maxRecDepth 100000 in
set_option maxHeartbeats 2000000 in
theorem containsPf_any (xs : List Pf) (v : Value) (p : Pf) (w : World) (B : Nat) (hl : SlV w B 2 Pf.C v xs) (hB : B ≤ w.heap.size) : Calls Tryz.prog 199 #[v, .agg #[.int .u32 (p.pa : Int), .int .i64 p.pl]] w fun e w' => e = .returned (.bool (xs.any (samePf p))) ∧ Below w.heap.size w w' := by
  have H0 := Lib.hid (RQ.start 71 #[.int .u32 (p.pa : Int), .int .i64 p.pl] w)
  have K := Lib.hid (fun w' (h : RQ 71 #[.int .u32 (p.pa : Int), .int .i64 p.pl] w w') => indexPf_any xs v p w' B (hl.below (h.b.mono hB)) (Nat.le_trans hB h.b.size))
  have EA := Lib.hid (idxF_any (samePf p) xs 0)
  generalize idxF (samePf p) xs 0 = i at K EA
  clear hl hB
  go_enter Tryz.func199, Tryz.ntmps199
  go_wp2_with fail
  refine (K.out _ H0.out).mono ?_
  rintro e w1 ⟨rfl, hb⟩
  have H1 := Lib.hid (H0.out.keep hb)
  clear hb
  go_wp2_with fail
  all_goals (go_ret; exact ⟨ret_bool (by rw [← EA.out]; first | done | (simp; done) | (simp [*]; done) | (simp; omega)), H1.out.b⟩)
end Go.Proofs.YtmddfkpkddemnaaGreatDoor
namespace Go.Proofs.YtmddfkpkddemnaaGreatDoor
open Go.RowKit
def Rt.pvC (r : Rt) : Array Value := #[.bool r.pvOn, .int .i64 r.ext, .int .i64 r.int, r.nbV, r.netV, r.agV, r.cdV, r.pvRedV]
def netF (x : Pf) : Int := if validP x.pa x.pl then 0 else 1
def agF (x : Ag) : Int := if validP x.pa x.pl then 0 else 1
def cdF (x : Cd) : Int := if validP x.pa x.pl && validP x.ia x.il then (if decide (x.pa = x.ia ∧ x.pl = x.il) then 6 else 0) else 1
def sameAg (x y : Ag) : Bool := decide (y.pa = x.pa ∧ y.pl = x.pl)
def sameCd (x y : Cd) : Bool := decide (y.pa = x.pa ∧ y.pl = x.pl)
def netsE (l : List Pf) : Int := pairE 8 netF samePf 4 l
def agsE (l : List Ag) : Int := pairE 8 agF sameAg 4 l
def cdsE (l : List Cd) : Int := pairE 8 cdF sameCd 4 l
def origE (r : Rt) : Int := if netsE r.net = 0 then (if agsE r.ag = 0 then cdsE r.cd else agsE r.ag) else netsE r.net
set_option maxRecDepth 100000 in
set_option maxHeartbeats 8000000 in
theorem checkOrigins_any (r : Rt) (w : World) (B : Nat) (h : r.at w B) (hB : B ≤ w.heap.size) (hf1 : ∀ x ∈ r.net, x.fit) (hf2 : ∀ x ∈ r.ag, x.fit) (hf3 : ∀ x ∈ r.cd, x.fit) : Calls Tryz.prog 162 #[.agg r.pvC] w fun e w' => e = .returned (.int .i64 (origE r)) ∧ Below w.heap.size w w' := by
  have HR := Lib.hid h
  have HBB := Lib.hid hB
  have HF1 := Lib.hid hf1
  have HF2 := Lib.hid hf2
  have HF3 := Lib.hid hf3
  obtain ⟨A1, c1, hv1, hle, -⟩ := h.hnet
  obtain ⟨A2, c2, hv2, hle2, -⟩ := h.hag
  obtain ⟨A3, c3, hv3, hle3, -⟩ := h.hcd
  have HV1 := Lib.hid hv1
  have HV2 := Lib.hid hv2
  have HV3 := Lib.hid hv3
  have HL1 : Hid (∀ w', RQ 39 r.pvC w w' → w'.cell? ⟨w.heap.size, 4, none⟩ = some (.slice A1 r.net.length c1)) := Lib.hid (fun w' h => by rw [← hv1]; exact h.h.cell 4)
  have HL2 : Hid (∀ w', RQ 39 r.pvC w w' → w'.cell? ⟨w.heap.size, 5, none⟩ = some (.slice A2 r.ag.length c2)) := Lib.hid (fun w' h => by rw [← hv2]; exact h.h.cell 5)
  have HL3 : Hid (∀ w', RQ 39 r.pvC w w' → w'.cell? ⟨w.heap.size, 6, none⟩ = some (.slice A3 r.cd.length c3)) := Lib.hid (fun w' h => by rw [← hv3]; exact h.h.cell 6)
  have H0 := Lib.hid (RQ.start 39 r.pvC w)
  clear h hB hf1 hf2 hf3 hv1 hv2 hv3
  obtain ⟨res, hres⟩ : ∃ res, origE r = res := ⟨_, rfl⟩
  rw [hres]
  obtain ⟨pg1, hpg1⟩ : ∃ pg, netsE r.net = pg := ⟨_, rfl⟩
  obtain ⟨pg2, hpg2⟩ : ∃ pg, agsE r.ag = pg := ⟨_, rfl⟩
  obtain ⟨pg3, hpg3⟩ : ∃ pg, cdsE r.cd = pg := ⟨_, rfl⟩
  have HP1 : Hid (res = if pg1 = 0 then (if pg2 = 0 then pg3 else pg2) else pg1) := Lib.hid (by rw [← hres, ← hpg1, ← hpg2, ← hpg3]; rfl)
  clear hres
  replace hpg2 := Lib.hid hpg2
  replace hpg3 := Lib.hid hpg3
  generalize hcs : r.pvC = cs at *
  clear hcs
  have c2' := HL1.out _ H0.out
  go_enter Tryz.func162, Tryz.ntmps162
  by_cases h8 : 8 < r.net.length
  · have E : Hid (pg1 = 7) := Lib.hid (by rw [← hpg1]; exact if_pos h8)
    have E2 := Lib.hid (fin_err HP1.out E.out (by decide))
    clear hpg1
    go_wp2_with fail
    go_ret
    exact ⟨ret_int E2.out.symm, H0.out.b⟩
  have d8 : decide ((8 : Int) < r.net.length) = false := by simp; omega
  have E : Hid (pairGo netF samePf 4 r.net r.net 0 = pg1) := Lib.hid (by rw [← hpg1]; exact (if_neg h8).symm)
  clear hpg1
  go_wp2_with fail
  clear c2' d8
  have HV := HV1
  have HF := HF1
  go_loopg [20] r.net.length (fun gh ix wr => ∃ k : Nat, k + gh = r.net.length ∧ ix = .int .i64 k ∧ Hid ((RQ 39 cs w) wr) ∧ Hid (pairGo netF samePf 4 r.net (r.net.drop k) k = pg1))
  case atStart => exact ⟨0, by omega, rfl, H0, E⟩
  case round =>
    obtain ⟨k, hk, rfl, HW, HG⟩ := hrel
    clear H0 E
    by_cases hlt : k < r.net.length
    case neg =>
      have E := Lib.hid (pairGo_end hlt HG.out)
      have HP2 := Lib.hid (fin_ok HP1.out E.out)
      have c2' := HL2.out _ HW.out
      have hle := hle2
      have hpg2' := hpg2.out
      by_cases h8 : 8 < r.ag.length
      · have E : Hid (pg2 = 7) := Lib.hid (by rw [← hpg2']; exact if_pos h8)
        have E2 := Lib.hid (fin_err HP2.out E.out (by decide))
        have d8 : decide ((8 : Int) < r.ag.length) = true := by simp; omega
        clear hpg2'
        go_wp2_with fail
        go_ret
        exact ⟨ret_int E2.out.symm, HW.out.b⟩
      have d8 : decide ((8 : Int) < r.ag.length) = false := by simp; omega
      have E : Hid (pairGo agF sameAg 4 r.ag r.ag 0 = pg2) := Lib.hid (by rw [← hpg2']; exact (if_neg h8).symm)
      clear hpg2'
      go_wp2_with fail
      clear c2' d8
      have HV := HV2
      have HF := HF2
      have H0 := HW
      go_loopg [42] r.ag.length (fun gh ix wr => ∃ k : Nat, k + gh = r.ag.length ∧ ix = .int .i64 k ∧ Hid ((RQ 39 cs w) wr) ∧ Hid (pairGo agF sameAg 4 r.ag (r.ag.drop k) k = pg2))
      case atStart => exact ⟨0, by omega, rfl, H0, E⟩
      case round =>
        obtain ⟨k, hk, rfl, HW, HG⟩ := hrel
        clear H0 E
        by_cases hlt : k < r.ag.length
        case neg =>
          have E := Lib.hid (pairGo_end hlt HG.out)
          have HP3 := Lib.hid (fin_ok HP2.out E.out)
          have c2' := HL3.out _ HW.out
          have hle := hle3
          have hpg3' := hpg3.out
          by_cases h8 : 8 < r.cd.length
          · have E : Hid (pg3 = 7) := Lib.hid (by rw [← hpg3']; exact if_pos h8)
            have E2 := Lib.hid (HP3.out.trans E.out)
            have d8 : decide ((8 : Int) < r.cd.length) = true := by simp; omega
            clear hpg3'
            go_wp2_with fail
            go_ret
            exact ⟨ret_int E2.out.symm, HW.out.b⟩
          have d8 : decide ((8 : Int) < r.cd.length) = false := by simp; omega
          have E : Hid (pairGo cdF sameCd 4 r.cd r.cd 0 = pg3) := Lib.hid (by rw [← hpg3']; exact (if_neg h8).symm)
          clear hpg3'
          go_wp2_with fail
          clear c2' d8
          have HV := HV3
          have HF := HF3
          have H0 := HW
          go_loopg [74] r.cd.length (fun gh ix wr => ∃ k : Nat, k + gh = r.cd.length ∧ ix = .int .i64 k ∧ Hid ((RQ 39 cs w) wr) ∧ Hid (pairGo cdF sameCd 4 r.cd (r.cd.drop k) k = pg3))
          case atStart => exact ⟨0, by omega, rfl, H0, E⟩
          case round =>
            obtain ⟨k, hk, rfl, HW, HG⟩ := hrel
            clear H0 E
            by_cases hlt : k < r.cd.length
            case neg =>
              have E := Lib.hid (pairGo_end hlt HG.out)
              have E2 := Lib.hid (HP3.out.trans E.out)
              go_wp2_with fail
              go_ret
              exact ⟨ret_int E2.out.symm, HW.out.b⟩
            have HAT := Lib.hid (pairGo_at hlt HG.out)
            obtain ⟨g, o, c', e', -, hg, R0⟩ := (HR.out.hcd).elem (n := 5) (by decide) (fun _ => rfl) hlt
            rw [HV.out] at e'
            injection e' with e1 e2 e3
            subst e1 e3
            have r1 := Lib.hid (rangeBelow R0 (HW.out.b.mono HBB.out) hg)
            have FX := Lib.hid (HF.out _ (List.getElem_mem hlt))
            clear R0 HG e2
            generalize r.cd[k] = x at HAT r1 FX
            go_upto_region 30 with (first | (refine wpList_loadRow rfl 128 _ rfl rfl r1.out Tryz.rowCd Tryz.sizeCd ?_) | (refine wpList_storeRow rfl 128 _ _ rfl rfl rfl (HasC.new wr _ _) rfl Tryz.sizeCd (Cd.one x) ?_; intro w5 hz1 hz2))
            have H5 := Lib.hid (HW.out.keep (new_below hz2))
            have X5 := hz1
            clear hz1 hz2 r1 HW
            generalize wr.heap.size = gx at X5 ⊢
            replace X5 := Lib.hid X5
            have PE : Hid (cdF x = if validP x.pa x.pl && validP x.ia x.il then (if decide (x.pa = x.ia ∧ x.pl = x.il) then 6 else 0) else 1) := Lib.hid rfl
            have xc0 : w5.cell? ⟨gx, 0, none⟩ = some (.int .u32 (x.pa : Int)) := X5.out.cell 0
            have xc1 : w5.cell? ⟨gx, 1, none⟩ = some (.int .i64 x.pl) := X5.out.cell 1
            go_wp2_with fail
            refine (valid_any x.pa x.pl _ FX.out.1).mono ?_
            rintro e w6 ⟨rfl, hb⟩
            have H6 := Lib.hid (H5.out.keep hb)
            have X6 := Lib.hid (X5.out.keep hb)
            clear hb H5 X5 xc0 xc1
            cases h1 : validP x.pa x.pl with
            | false =>
              have F1 : Hid (cdF x = 1) := Lib.hid (by rw [PE.out, h1]; rfl)
              have E : Hid (pg3 = 1) := Lib.hid ((pair_fail HAT.out (by rw [F1.out]; decide)).trans (F1.out))
              have E := Lib.hid (HP3.out.trans E.out)
              go_wp2_with fail
              go_ret
              exact ⟨ret_int E.out.symm, H6.out.b⟩
            | true =>
            have xc2 : w6.cell? ⟨gx, 2, none⟩ = some (.int .u32 (x.ia : Int)) := X6.out.cell 2
            have xc3 : w6.cell? ⟨gx, 3, none⟩ = some (.int .i64 x.il) := X6.out.cell 3
            go_wp2_with fail
            refine (valid_any x.ia x.il _ FX.out.2).mono ?_
            rintro e w7 ⟨rfl, hb⟩
            have H7 := Lib.hid (H6.out.keep hb)
            have X7 := Lib.hid (X6.out.keep hb)
            clear hb H6 X6 xc2 xc3
            cases h2 : validP x.ia x.il with
            | false =>
              have F1 : Hid (cdF x = 1) := Lib.hid (by rw [PE.out, h1, h2]; rfl)
              have E : Hid (pg3 = 1) := Lib.hid ((pair_fail HAT.out (by rw [F1.out]; decide)).trans (F1.out))
              have E := Lib.hid (HP3.out.trans E.out)
              go_wp2_with fail
              go_ret
              exact ⟨ret_int E.out.symm, H7.out.b⟩
            | true =>
            have PE2 : Hid (cdF x = if decide (x.pa = x.ia ∧ x.pl = x.il) then 6 else 0) := Lib.hid (by rw [PE.out, h1, h2]; rfl)
            clear PE h1 h2
            have xc0 : w7.cell? ⟨gx, 0, none⟩ = some (.int .u32 (x.pa : Int)) := X7.out.cell 0
            have xc1 : w7.cell? ⟨gx, 1, none⟩ = some (.int .i64 x.pl) := X7.out.cell 1
            have xc2 : w7.cell? ⟨gx, 2, none⟩ = some (.int .u32 (x.ia : Int)) := X7.out.cell 2
            have xc3 : w7.cell? ⟨gx, 3, none⟩ = some (.int .i64 x.il) := X7.out.cell 3
            have gd := Tryz.pfxGuard
            have qx : ∀ w, (binOp .eql 71 (.agg #[.int .u32 (x.pa : Int), .int .i64 x.pl]) (.agg #[.int .u32 (x.ia : Int), .int .i64 x.il])).run Tryz.prog w = .ok (.bool (decide (x.pa = x.ia ∧ x.pl = x.il))) w := fun w => pfx_eql x.pa x.ia x.pl x.il w
            generalize decide (x.pa = x.ia ∧ x.pl = x.il) = bx at qx PE2
            cases bx with
            | true =>
              have F1 : Hid (cdF x = 6) := Lib.hid (by rw [PE2.out]; rfl)
              have E : Hid (pg3 = 6) := Lib.hid ((pair_fail HAT.out (by rw [F1.out]; decide)).trans (F1.out))
              have E := Lib.hid (HP3.out.trans E.out)
              go_wp2_with fail
              go_ret
              exact ⟨ret_int E.out.symm, H7.out.b⟩
            | false =>
            have F0 : Hid (cdF x = 0) := Lib.hid (by rw [PE2.out]; rfl)
            have HAN : Hid (pg3 = if (r.cd.take k).any (sameCd x) then 4 else pairGo cdF sameCd 4 r.cd (r.cd.drop (k + 1)) (k + 1)) := Lib.hid (pair_ok HAT.out F0.out)
            clear HAT F0
            have c2 := HL3.out _ H7.out
            go_wp2_with fail
            clear c2 xc0 xc1 xc2 xc3 qx gd
            go_loopg [99] k (fun gh ix wq => ∃ j : Nat, j + gh = k ∧ ix = .int .i64 j ∧ Hid ((RQ 39 cs w) wq) ∧ Hid (HasC 128 gx x.C wq) ∧ Hid ((r.cd.take k).any (sameCd x) = ((r.cd.take k).drop j).any (sameCd x)))
            case atStart => exact ⟨0, by omega, rfl, H7, X7, Lib.hid rfl⟩
            case round =>
              obtain ⟨j, hj, rfl, HQ, XQ, HAY⟩ := hrel
              by_cases hjl : j < k
              case neg =>
                have E : Hid (pairGo cdF sameCd 4 r.cd (r.cd.drop (k + 1)) (k + 1) = pg3) := Lib.hid (pair_done HAN.out HAY.out hjl).symm
                go_wp2_with fail
                go_roundg (r.cd.length - (k + 1))
                case measure => omega
                case rel => exact ⟨k + 1, by omega, by go_num, HQ, E⟩
              have hjn : j < r.cd.length := by omega
              obtain ⟨g', o', c'', e', -, hg', R0⟩ := (HR.out.hcd).elem (n := 5) (by decide) (fun _ => rfl) hjn
              rw [HV.out] at e'
              injection e' with e1 e2 e3
              injection e1 with e1
              injection e1 with e1 e4
              subst e1 e4
              have HST := Lib.hid (take_step (all := r.cd) (p := sameCd x) hjl hjn)
              have r1 := Lib.hid (rangeBelow R0 (HQ.out.b.mono HBB.out) hg')
              clear R0 e2 e3
              generalize r.cd[j] = y at HST r1
              have hjk : (j : Int) < k := by omega
              go_upto_region 37 with (first | (refine wpList_loadRow rfl 128 _ rfl rfl r1.out Tryz.rowCd Tryz.sizeCd ?_) | (refine wpList_storeRow rfl 128 _ _ rfl rfl rfl (HasC.new wr _ _) rfl Tryz.sizeCd (Cd.one y) ?_; intro w6 hz1 hz2))
              have H6 := Lib.hid (HQ.out.keep (new_below hz2))
              have X6 := Lib.hid (XQ.out.keep (new_below hz2))
              have Y6 := hz1
              clear hz1 hz2 r1 HQ XQ
              generalize wr.heap.size = gy at Y6 ⊢
              replace Y6 := Lib.hid Y6
              have xc0 : w6.cell? ⟨gx, 0, none⟩ = some (.int .u32 (x.pa : Int)) := X6.out.cell 0
              have xc1 : w6.cell? ⟨gx, 1, none⟩ = some (.int .i64 x.pl) := X6.out.cell 1
              have yc0 : w6.cell? ⟨gy, 0, none⟩ = some (.int .u32 (y.pa : Int)) := Y6.out.cell 0
              have yc1 : w6.cell? ⟨gy, 1, none⟩ = some (.int .i64 y.pl) := Y6.out.cell 1
              have qe : ∀ w, (binOp .eql 71 (.agg #[.int .u32 (y.pa : Int), .int .i64 y.pl]) (.agg #[.int .u32 (x.pa : Int), .int .i64 x.pl])).run Tryz.prog w = .ok (.bool (decide (y.pa = x.pa ∧ y.pl = x.pl))) w := fun w => pfx_eql y.pa x.pa y.pl x.pl w
              have gd := Tryz.pfxGuard
              have CC : Hid (sameCd x y = decide (y.pa = x.pa ∧ y.pl = x.pl)) := Lib.hid rfl
              generalize decide (y.pa = x.pa ∧ y.pl = x.pl) = bp at qe CC
              cases bp with
              | false =>
                have EN : Hid ((r.cd.take k).any (sameCd x) = ((r.cd.take k).drop (j + 1)).any (sameCd x)) := Lib.hid (pair_next HAY.out (by rw [HST.out, CC.out]))
                go_wp2_with fail
                go_roundg (k - (j + 1))
                case measure => omega
                case rel => exact ⟨j + 1, by omega, by go_num, H6, X6, EN⟩
              | true =>
                have E : Hid (pg3 = 4) := Lib.hid (pair_hit HAN.out HAY.out (by rw [HST.out, CC.out]))
                have E := Lib.hid (HP3.out.trans E.out)
                go_wp2_with fail
                go_ret
                exact ⟨ret_int E.out.symm, H6.out.b⟩
        have HAT := Lib.hid (pairGo_at hlt HG.out)
        obtain ⟨g, o, c', e', -, hg, R0⟩ := (HR.out.hag).elem (n := 3) (by decide) (fun _ => rfl) hlt
        rw [HV.out] at e'
        injection e' with e1 e2 e3
        subst e1 e3
        have r1 := Lib.hid (rangeBelow R0 (HW.out.b.mono HBB.out) hg)
        have FX := Lib.hid (HF.out _ (List.getElem_mem hlt))
        clear R0 HG e2
        generalize r.ag[k] = x at HAT r1 FX
        go_upto_region 16 with (first | (refine wpList_loadRow rfl 126 _ rfl rfl r1.out Tryz.rowAg Tryz.sizeAg ?_) | (refine wpList_storeRow rfl 126 _ _ rfl rfl rfl (HasC.new wr _ _) rfl Tryz.sizeAg (Ag.one x) ?_; intro w5 hz1 hz2))
        have H5 := Lib.hid (HW.out.keep (new_below hz2))
        have X5 := hz1
        clear hz1 hz2 r1 HW
        generalize wr.heap.size = gx at X5 ⊢
        replace X5 := Lib.hid X5
        have PE : Hid (agF x = if validP x.pa x.pl then 0 else 1) := Lib.hid rfl
        have xc0 : w5.cell? ⟨gx, 0, none⟩ = some (.int .u32 (x.pa : Int)) := X5.out.cell 0
        have xc1 : w5.cell? ⟨gx, 1, none⟩ = some (.int .i64 x.pl) := X5.out.cell 1
        go_wp2_with fail
        refine (valid_any x.pa x.pl _ FX.out).mono ?_
        rintro e w6 ⟨rfl, hb⟩
        have H6 := Lib.hid (H5.out.keep hb)
        have X6 := Lib.hid (X5.out.keep hb)
        clear hb H5 X5 xc0 xc1
        cases h1 : validP x.pa x.pl with
        | false =>
          have F1 : Hid (agF x = 1) := Lib.hid (by rw [PE.out, h1]; rfl)
          have E : Hid (pg2 = 1) := Lib.hid ((pair_fail HAT.out (by rw [F1.out]; decide)).trans (F1.out))
          have E := Lib.hid (fin_err HP2.out E.out (show (1 : Int) ≠ 0 by decide))
          go_wp2_with fail
          go_ret
          exact ⟨ret_int E.out.symm, H6.out.b⟩
        | true =>
        have F0 : Hid (agF x = 0) := Lib.hid (by rw [PE.out, h1]; rfl)
        clear PE h1
        have HAN : Hid (pg2 = if (r.ag.take k).any (sameAg x) then 4 else pairGo agF sameAg 4 r.ag (r.ag.drop (k + 1)) (k + 1)) := Lib.hid (pair_ok HAT.out F0.out)
        clear HAT F0
        have c2 := HL2.out _ H6.out
        go_wp2_with fail
        clear c2
        go_loopg [56] k (fun gh ix wq => ∃ j : Nat, j + gh = k ∧ ix = .int .i64 j ∧ Hid ((RQ 39 cs w) wq) ∧ Hid (HasC 126 gx x.C wq) ∧ Hid ((r.ag.take k).any (sameAg x) = ((r.ag.take k).drop j).any (sameAg x)))
        case atStart => exact ⟨0, by omega, rfl, H6, X6, Lib.hid rfl⟩
        case round =>
          obtain ⟨j, hj, rfl, HQ, XQ, HAY⟩ := hrel
          by_cases hjl : j < k
          case neg =>
            have E : Hid (pairGo agF sameAg 4 r.ag (r.ag.drop (k + 1)) (k + 1) = pg2) := Lib.hid (pair_done HAN.out HAY.out hjl).symm
            go_wp2_with fail
            go_roundg (r.ag.length - (k + 1))
            case measure => omega
            case rel => exact ⟨k + 1, by omega, by go_num, HQ, E⟩
          have hjn : j < r.ag.length := by omega
          obtain ⟨g', o', c'', e', -, hg', R0⟩ := (HR.out.hag).elem (n := 3) (by decide) (fun _ => rfl) hjn
          rw [HV.out] at e'
          injection e' with e1 e2 e3
          injection e1 with e1
          injection e1 with e1 e4
          subst e1 e4
          have HST := Lib.hid (take_step (all := r.ag) (p := sameAg x) hjl hjn)
          have r1 := Lib.hid (rangeBelow R0 (HQ.out.b.mono HBB.out) hg')
          clear R0 e2 e3
          generalize r.ag[j] = y at HST r1
          have hjk : (j : Int) < k := by omega
          go_upto_region 21 with (first | (refine wpList_loadRow rfl 126 _ rfl rfl r1.out Tryz.rowAg Tryz.sizeAg ?_) | (refine wpList_storeRow rfl 126 _ _ rfl rfl rfl (HasC.new wr _ _) rfl Tryz.sizeAg (Ag.one y) ?_; intro w6 hz1 hz2))
          have H6 := Lib.hid (HQ.out.keep (new_below hz2))
          have X6 := Lib.hid (XQ.out.keep (new_below hz2))
          have Y6 := hz1
          clear hz1 hz2 r1 HQ XQ
          generalize wr.heap.size = gy at Y6 ⊢
          replace Y6 := Lib.hid Y6
          have xc0 : w6.cell? ⟨gx, 0, none⟩ = some (.int .u32 (x.pa : Int)) := X6.out.cell 0
          have xc1 : w6.cell? ⟨gx, 1, none⟩ = some (.int .i64 x.pl) := X6.out.cell 1
          have yc0 : w6.cell? ⟨gy, 0, none⟩ = some (.int .u32 (y.pa : Int)) := Y6.out.cell 0
          have yc1 : w6.cell? ⟨gy, 1, none⟩ = some (.int .i64 y.pl) := Y6.out.cell 1
          have qe : ∀ w, (binOp .eql 71 (.agg #[.int .u32 (y.pa : Int), .int .i64 y.pl]) (.agg #[.int .u32 (x.pa : Int), .int .i64 x.pl])).run Tryz.prog w = .ok (.bool (decide (y.pa = x.pa ∧ y.pl = x.pl))) w := fun w => pfx_eql y.pa x.pa y.pl x.pl w
          have gd := Tryz.pfxGuard
          have CC : Hid (sameAg x y = decide (y.pa = x.pa ∧ y.pl = x.pl)) := Lib.hid rfl
          generalize decide (y.pa = x.pa ∧ y.pl = x.pl) = bp at qe CC
          cases bp with
          | false =>
            have EN : Hid ((r.ag.take k).any (sameAg x) = ((r.ag.take k).drop (j + 1)).any (sameAg x)) := Lib.hid (pair_next HAY.out (by rw [HST.out, CC.out]))
            go_wp2_with fail
            go_roundg (k - (j + 1))
            case measure => omega
            case rel => exact ⟨j + 1, by omega, by go_num, H6, X6, EN⟩
          | true =>
            have E : Hid (pg2 = 4) := Lib.hid (pair_hit HAN.out HAY.out (by rw [HST.out, CC.out]))
            have E := Lib.hid (fin_err HP2.out E.out (show (4 : Int) ≠ 0 by decide))
            go_wp2_with fail
            go_ret
            exact ⟨ret_int E.out.symm, H6.out.b⟩
    have HAT := Lib.hid (pairGo_at hlt HG.out)
    obtain ⟨g, o, c', e', -, hg, R0⟩ := (HR.out.hnet).elem (n := 2) (by decide) (fun _ => rfl) hlt
    rw [HV.out] at e'
    injection e' with e1 e2 e3
    subst e1 e3
    have r1 := Lib.hid (rangeBelow R0 (HW.out.b.mono HBB.out) hg)
    have FX := Lib.hid (HF.out _ (List.getElem_mem hlt))
    clear R0 HG e2
    generalize r.net[k] = x at HAT r1 FX
    go_upto_region 6 with (first | (refine wpList_loadRow rfl 71 _ rfl rfl r1.out Tryz.rowPf Tryz.sizePf ?_) | (refine wpList_storeRow rfl 71 _ _ rfl rfl rfl (HasC.new wr _ _) rfl Tryz.sizePf (Pf.one x) ?_; intro w5 hz1 hz2))
    have H5 := Lib.hid (HW.out.keep (new_below hz2))
    have X5 := hz1
    clear hz1 hz2 r1 HW
    generalize wr.heap.size = gx at X5 ⊢
    replace X5 := Lib.hid X5
    have PE : Hid (netF x = if validP x.pa x.pl then 0 else 1) := Lib.hid rfl
    have xc0 : w5.cell? ⟨gx, 0, none⟩ = some (.int .u32 (x.pa : Int)) := X5.out.cell 0
    have xc1 : w5.cell? ⟨gx, 1, none⟩ = some (.int .i64 x.pl) := X5.out.cell 1
    go_wp2_with fail
    refine (valid_any x.pa x.pl _ FX.out).mono ?_
    rintro e w6 ⟨rfl, hb⟩
    have H6 := Lib.hid (H5.out.keep hb)
    have X6 := Lib.hid (X5.out.keep hb)
    clear hb H5 X5 xc0 xc1
    cases h1 : validP x.pa x.pl with
    | false =>
      have F1 : Hid (netF x = 1) := Lib.hid (by rw [PE.out, h1]; rfl)
      have E : Hid (pg1 = 1) := Lib.hid ((pair_fail HAT.out (by rw [F1.out]; decide)).trans (F1.out))
      have E := Lib.hid (fin_err HP1.out E.out (show (1 : Int) ≠ 0 by decide))
      go_wp2_with fail
      go_ret
      exact ⟨ret_int E.out.symm, H6.out.b⟩
    | true =>
    have F0 : Hid (netF x = 0) := Lib.hid (by rw [PE.out, h1]; rfl)
    clear PE h1
    have HAN : Hid (pg1 = if (r.net.take k).any (samePf x) then 4 else pairGo netF samePf 4 r.net (r.net.drop (k + 1)) (k + 1)) := Lib.hid (pair_ok HAT.out F0.out)
    clear HAT F0
    have HLn := Lib.hid (HV1.out ▸ HR.out.hnet)
    have PC := Lib.hid (fun w' (h : RQ 39 cs w w') => containsPf_any (r.net.take k) (.slice (some ⟨g, o, none⟩) k c1) x w' B (SlV.take (n := 2) (cells := Pf.C) (by decide) (fun _ => rfl) (HLn.out.below (h.b.mono HBB.out)) (Nat.le_of_lt hlt)) (Nat.le_trans HBB.out h.b.size))
    have SC : Hid (∀ w1 w2, (w1.cell? ⟨w.heap.size, 4, none⟩ = some (.slice (some ⟨g, o, none⟩) r.net.length c1) ∧ w1.cell? ⟨gx, 0, none⟩ = some (.int .u32 (x.pa : Int)) ∧ w1.cell? ⟨gx, 1, none⟩ = some (.int .i64 x.pl) ∧ RQ 39 cs w w1) → Below w1.heap.size w1 w2 → (w2.cell? ⟨w.heap.size, 4, none⟩ = some (.slice (some ⟨g, o, none⟩) r.net.length c1) ∧ w2.cell? ⟨gx, 0, none⟩ = some (.int .u32 (x.pa : Int)) ∧ w2.cell? ⟨gx, 1, none⟩ = some (.int .i64 x.pl) ∧ RQ 39 cs w w2)) := Lib.hid (fun w1 w2 h hb => ⟨(hb.cell (World.block_lt_of_cell? _ _ h.1)).trans h.1, (hb.cell (World.block_lt_of_cell? _ _ h.2.1)).trans h.2.1, (hb.cell (World.block_lt_of_cell? _ _ h.2.2.1)).trans h.2.2.1, h.2.2.2.keep hb⟩)
    have HS0 : Hid (w6.drew.cell? ⟨w.heap.size, 4, none⟩ = some (.slice (some ⟨g, o, none⟩) r.net.length c1) ∧ w6.drew.cell? ⟨gx, 0, none⟩ = some (.int .u32 (x.pa : Int)) ∧ w6.drew.cell? ⟨gx, 1, none⟩ = some (.int .i64 x.pl) ∧ RQ 39 cs w w6.drew) := Lib.hid ⟨HL1.out _ (H6.out.keep (belowDrew _)), (X6.out.keep (belowDrew _)).cell 0, (X6.out.keep (belowDrew _)).cell 1, H6.out.keep (belowDrew _)⟩
    generalize (r.net.take k).any (samePf x) = bc at PC HAN
    have hkc : k ≤ c1 := by omega
    clear H6 X6
    go_wp2_with fail
    refine wp_region_held_drew (S := fun w' => w'.cell? ⟨w.heap.size, 4, none⟩ = some (.slice (some ⟨g, o, none⟩) r.net.length c1) ∧ w'.cell? ⟨gx, 0, none⟩ = some (.int .u32 (x.pa : Int)) ∧ w'.cell? ⟨gx, 1, none⟩ = some (.int .i64 x.pl) ∧ RQ 39 cs w w') (by kernel_rfl) (HS0.out) (fun hHeld => ?_)
    refine wpAnyH_take (i := 0) (oi := { dst := some 28, op := Op.fieldAddr 39 (Operand.tmp 1) 4, type := 0, pos := "protocols.go:128", after := #[], guard := none }) (v := ?_) rfl (by kernel_rfl) (by kernel_rfl) (by kernel_rfl) (fun _ _ _ h => h) (Or.inl ⟨by rfl, ?_⟩) (by assumption) ?_
    rotate_left
    · (intro w hSw; (try dsimp only at hSw); go_simp; try with_reducible rfl)
    try simp only [Act.put, List.setIfInBounds_toArray, List.set_cons_zero, List.set_cons_succ]
    refine wpAnyH_take (i := 1) (oi := { dst := some 29, op := Op.load 35 (Operand.tmp 28), type := 35, pos := "protocols.go:128", after := #[{ on := 0, ground := Ground.data }], guard := none }) (v := ?_) rfl (by kernel_rfl) (by kernel_rfl) (by kernel_rfl) (fun _ _ _ h => h) (Or.inl ⟨by rfl, ?_⟩) (by assumption) ?_
    rotate_left
    · (intro w hSw; (try dsimp only at hSw); go_simp; try with_reducible rfl)
    try simp only [Act.put, List.setIfInBounds_toArray, List.set_cons_zero, List.set_cons_succ]
    refine wpAnyH_take (i := 2) (oi := { dst := some 30, op := Op.move (Operand.tmp 3), type := 3, pos := "protocols.go:128", after := #[], guard := none }) (v := ?_) rfl (by kernel_rfl) (by kernel_rfl) (by kernel_rfl) (fun _ _ _ h => h) (Or.inl ⟨by rfl, ?_⟩) (by assumption) ?_
    rotate_left
    · (intro w hSw; (try dsimp only at hSw); go_simp; try with_reducible rfl)
    try simp only [Act.put, List.setIfInBounds_toArray, List.set_cons_zero, List.set_cons_succ]
    refine wpAnyH_take (i := 3) (oi := { dst := some 31, op := Op.slice 35 (Operand.tmp 29) none (some (Operand.tmp 30)) none, type := 35, pos := "protocols.go:128", after := #[{ on := 1, ground := Ground.data }, { on := 2, ground := Ground.data }], guard := none }) (v := ?_) rfl (by kernel_rfl) (by kernel_rfl) (by kernel_rfl) (fun _ _ _ h => h) (Or.inl ⟨by rfl, ?_⟩) (by assumption) ?_
    rotate_left
    · (intro w hSw; (try dsimp only at hSw); go_simp; try with_reducible rfl)
    try simp only [Act.put, List.setIfInBounds_toArray, List.set_cons_zero, List.set_cons_succ]
    refine wpAnyH_take (i := 4) (oi := { dst := some 32, op := Op.load 71 (Operand.tmp 4), type := 71, pos := "protocols.go:128", after := #[], guard := none }) (v := ?_) rfl (by kernel_rfl) (by kernel_rfl) (by kernel_rfl) (fun _ _ _ h => h) (Or.inl ⟨by rfl, ?_⟩) (by assumption) ?_
    rotate_left
    · (intro w hSw; (try dsimp only at hSw); go_simp; try with_reducible rfl)
    try simp only [Act.put, List.setIfInBounds_toArray, List.set_cons_zero, List.set_cons_succ]
    refine wpAnyH_ready (rs := [5]) (by kernel_rfl) (by simp) ?_
    refine AllReadyH.cons (o := { dst := some 33, op := Op.call { callee := Callee.value (Operand.func 199), args := #[Operand.tmp 31, Operand.tmp 32], argTypes := #[35, 71] }, type := 4, pos := "protocols.go:128", after := #[{ on := 3, ground := Ground.data }, { on := 4, ground := Ground.data }], guard := none }) rfl (fun K hK => ?_) AllReadyH.nil
    go_simp
    with_reducible refine (PC.out _ hHeld.2.2.2).mono ?_
    rintro e wa ⟨rfl, hb⟩
    refine hK.out _ _ (SC.out _ _ hHeld hb) (fun hHeld => ?_)
    clear hK K
    try simp only [Act.put, List.setIfInBounds_toArray, List.set_cons_zero, List.set_cons_succ]
    refine wpAnyH_done (by kernel_rfl) ?_ _
    clear PC SC HS0
    have H7 := Lib.hid hHeld.2.2.2
    clear hHeld
    cases bc with
    | true =>
      have E : Hid (pg1 = 4) := Lib.hid HAN.out
      have E := Lib.hid (fin_err HP1.out E.out (by decide))
      go_wp2_with fail
      go_ret
      exact ⟨ret_int E.out.symm, H7.out.b⟩
    | false =>
      have E : Hid (pairGo netF samePf 4 r.net (r.net.drop (k + 1)) (k + 1) = pg1) := Lib.hid HAN.out.symm
      go_wp2_with fail
      go_roundg (r.net.length - (k + 1))
      case measure => omega
      case rel => exact ⟨k + 1, by omega, by go_num, H7, E⟩
end Go.Proofs.YtmddfkpkddemnaaGreatDoor
