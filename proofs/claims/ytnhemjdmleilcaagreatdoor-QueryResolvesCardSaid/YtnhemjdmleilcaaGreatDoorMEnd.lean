/- The walks of model.Router and of the reference's router. Condition: the routers lie in memory. -/
import Derived.Test.YtnhemjdmleilcaaGreatDoorModU
import Derived.Lib.MinMax

namespace Go.Proofs.YtnhemjdmleilcaaGreatDoor
open Go.RowKit Go.Shelf

theorem ixRt_zero (A : Option Addr) (c : Nat) (fv : Value) (w : World) : Calls Tryz.prog 87 #[.slice A 0 c, fv] w fun e w' => e = .returned (.int .i64 (-1)) ∧ w = w' := by
  go_enter Tryz.func87, Tryz.ntmps87
  go_wp2_with fail
  go_loopg [8] 1 (fun _ ix wr => ix = .int .i64 0 ∧ w = wr)
  case atStart => exact ⟨rfl, rfl⟩
  case round =>
    obtain ⟨rfl, rfl⟩ := hrel
    go_wp2_with fail
    go_ret
    exact ⟨rfl, rfl⟩
theorem Tryz.aggRt (w : World) : (isAgg 69).run Tryz.prog w = .ok true w := by kernel_rfl
theorem Tryz.szofRt (w : World) : (Go.sizeOf 69).run Tryz.prog w = .ok 25 w := by kernel_rfl
theorem predRt (name : List UInt8) (B : Nat) (w : World) (hB : B < w.heap.size) (hcell : w.cell? ⟨B, 0, none⟩ = some (.string (str name))) :
    PredBelow Tryz.prog 88 #[.pointer (some ⟨B, 0, none⟩)] (fun (x : Rt) => .agg x.C.toList.toArray) (fun x => x.name == name) w := fun W x hb => by
  have hc : W.cell? ⟨B, 0, none⟩ = some (.string (str name)) := (hb.cell (p := ⟨B, 0, none⟩) hB).trans hcell
  have hc2 : ∀ o, (W.alloc o).cell? ⟨B, 0, none⟩ = some (.string (str name)) := fun o => (World.cell?_alloc_lt W o ⟨B, 0, none⟩ (by show B < _; have := hb.size; omega)).trans hc
  have hb2 := Lib.hid (fun o => hb.alloc hb.size o)
  have E : Hid (((str x.name).toList == (str name).toList) = (x.name == name)) := Lib.hid (by rw [toList_str, toList_str])
  show Calls Tryz.prog 88 #[.agg x.C, .pointer (some ⟨B, 0, none⟩)] W _
  unfold Rt.C strV
  clear hcell hb hB
  go_enter Tryz.func88, Tryz.ntmps88
  go_wp2_with fail
  all_goals (go_ret; exact ⟨ret_bool (by rw [← E.out]; first | done | (simp_all; done)), hb2.out _⟩)
set_option maxRecDepth 8000 in
set_option maxHeartbeats 1000000 in
theorem router_any (rs : List Rt) (v : Value) (name : List UInt8) (w : World) (B : Nat) (h : SlV w B 25 Rt.C v rs) (hB : B ≤ w.heap.size) : Calls Tryz.prog 48 #[.agg #[v], .string (str name)] w fun e w' => e = .returned (.int .i64 (idxF (fun x => x.name == name) rs 0)) ∧ Below w.heap.size w w' := by
  have H0 := HasC.new w 24 #[v]
  have H1 : HasC 24 w.heap.size #[v] ((w.alloc (.cells #[v] 24)).alloc (.cells #[.string (str name)] 9)) := H0.keep ((Below.refl _ _).alloc (Nat.le_refl _) _)
  have B0 := ((Below.refl w.heap.size w).alloc (Nat.le_refl _) (.cells #[v] 24)).alloc (by simp) (.cells #[.string (str name)] 9)
  have c1 : ((w.alloc (.cells #[v] 24)).alloc (.cells #[.string (str name)] 9)).cell? ⟨w.heap.size + 1, 0, none⟩ = some (.string (str name)) := by
    have := new_cell (w.alloc (.cells #[v] 24)) #[.string (str name)] 9 0
    rw [show (w.alloc (.cells #[v] 24)).heap.size = w.heap.size + 1 from by simp] at this
    exact this
  have c0 : ((w.alloc (.cells #[v] 24)).alloc (.cells #[.string (str name)] 9)).cell? ⟨w.heap.size, 0, none⟩ = some v := H1.cell 0
  have hsz : ((w.alloc (.cells #[v] 24)).alloc (.cells #[.string (str name)] 9)).heap.size = w.heap.size + 2 := by simp
  have HS := h.below (B0.mono hB)
  have K : Calls Tryz.prog 87 #[v, .func (.func 88) #[] #[.pointer (some ⟨w.heap.size + 1, 0, none⟩)]] ((w.alloc (.cells #[v] 24)).alloc (.cells #[.string (str name)] 9)) fun e w' => e = .returned (.int .i64 (idxF (fun x => x.name == name) rs 0)) ∧ Below w.heap.size w w' := by
    rcases SlV.cells (n := 25) (by decide) (fun _ => rfl) HS with e | ⟨g, o, c, e, hg, hc⟩
    · obtain ⟨A, c, e2, _⟩ := HS
      subst e e2
      refine (ixRt_zero A c _ _).mono ?_
      rintro e w' ⟨rfl, rfl⟩
      exact ⟨rfl, B0⟩
    · subst e
      have eg : ∀ args w, (callFunc 88 args).run Tryz.prog w = .ok (.enter 88 args) w := enters_of Tryz.func88 (by kernel_rfl) rfl
      have hm := HS.len
      refine (Tryz.slices_IndexFunc_f87 25 Tryz.aggRt Tryz.szofRt (fun (x : Rt) => x.C.toList) (fun _ => rfl) (fun x => x.name == name) 88 _ eg g o rs.length c rs _ (predRt name (w.heap.size + 1) _ (by rw [hsz]; omega) c1) (Nat.le_refl _) (by simp only [maxLen] at hm; omega) (by rw [hsz]; omega) hc).mono ?_
      rintro e w' ⟨rfl, hb⟩
      exact ⟨by rw [idxF_take], B0.trans (hb.mono B0.size)⟩
  have HK := Lib.hid K
  clear K HS H0 H1 h
  go_enter Tryz.func48, Tryz.ntmps48
  go_wp2_with fail
  refine HK.out.mono ?_
  rintro e w' ⟨rfl, hb⟩
  go_wp2_with fail
  go_ret
  exact ⟨rfl, hb⟩
set_option maxRecDepth 100000 in
set_option maxHeartbeats 2000000 in
theorem rrouter_any (rs : List Rt) (v : Value) (name : List UInt8) (w : World) (B : Nat) (h : SlV w B 25 Rt.C v rs) (hB : B ≤ w.heap.size) : Calls Tryz.prog 20 #[.agg #[v], .string (str name)] w fun e w' => e = .returned (.int .i64 (idxF (fun x => x.name == name) rs 0)) ∧ Below w.heap.size w w' := by
  have H0 := Lib.hid (RQ.start 24 #[v] w)
  have HLS := Lib.hid h
  have HBB := Lib.hid hB
  obtain ⟨A, c, hv, hle, -⟩ := h
  have HL : Hid (∀ w', RQ 24 #[v] w w' → w'.cell? ⟨w.heap.size, 0, none⟩ = some (.slice A rs.length c)) := Lib.hid (fun w' h => by rw [← hv]; exact h.h.cell 0)
  have HV := Lib.hid hv
  obtain ⟨res, hres⟩ : ∃ res, idxF (fun x => x.name == name) rs 0 = res := ⟨_, rfl⟩
  rw [hres]
  have hlen : rs.length ≤ 9223372036854775807 := by have := HLS.out.len; simp only [maxLen] at this; exact Nat.le_trans this (by omega)
  clear hv hB
  go_enter Tryz.func20, Tryz.ntmps20
  go_wp2_with fail
  go_loopg [5] rs.length (fun gh ix wr => ∃ k : Nat, k + gh = rs.length ∧ ix = .int .i64 k ∧ Hid (RQ 24 #[v] w wr) ∧ Hid (idxF (fun x => x.name == name) (rs.drop k) k = res))
  case atStart => exact ⟨0, by omega, rfl, H0, Lib.hid hres⟩
  case round =>
    obtain ⟨k, hk, rfl, HW, HG⟩ := hrel
    clear H0 hres
    have c2 := HL.out _ HW.out
    by_cases hlt : k < rs.length
    case neg =>
      have E := Lib.hid (idxF_end hlt HG.out)
      go_wp2_with fail
      go_ret
      exact ⟨ret_int E.out.symm, HW.out.b⟩
    have HAT := Lib.hid (idxF_step hlt HG.out)
    obtain ⟨g, o, c', e', -, hg, R0⟩ := HLS.out.elem (n := 25) (by decide) (fun _ => rfl) hlt
    rw [HV.out] at e'
    injection e' with e1 e2 e3
    subst e1 e3
    have k0 : wr.cell? ⟨g, o + k * 25, none⟩ = some (.string (str rs[k].name)) := rangeBelow R0 (HW.out.b.mono HBB.out) hg 0 _ rfl
    clear R0 HG e2
    generalize rs[k] = y at HAT k0
    have qn : ((str y.name).toList == (str name).toList) = (y.name == name) := by rw [toList_str, toList_str]
    have hki : (k : Int) < rs.length := by omega
    generalize (y.name == name) = b at qn HAT
    cases b with
    | true =>
      go_wp2_with fail
      go_ret
      exact ⟨ret_int (by rw [HAT.out]; rfl), HW.out.b⟩
    | false =>
      go_wp2_with fail
      go_roundg (rs.length - (k + 1))
      case measure => omega
      case rel => exact ⟨k + 1, by omega, by go_num, HW, Lib.hid (by rw [HAT.out]; rfl)⟩
end Go.Proofs.YtnhemjdmleilcaaGreatDoor

/- The walk of query.end. Conditions: the router lies in memory. -/
namespace Go.Proofs.YtnhemjdmleilcaaGreatDoor
open Go.RowKit

theorem Tryz.rowEn : (Tryz.prog.underlying 40).map TypeDesc.isRow = some true := by kernel_rfl
theorem Tryz.sizeEn : (Tryz.prog.info? 40).map (·.size) = some 2 := by kernel_rfl
theorem Tryz.rowNw : (Tryz.prog.underlying 24).map TypeDesc.isRow = some true := by kernel_rfl
theorem Tryz.sizeNw : (Tryz.prog.info? 24).map (·.size) = some 1 := by kernel_rfl
theorem HasC.load {P : Program} {T : TypeId} {g : Nat} {cs : Array Value} {w : World} (h : HasC T g cs w) (hr : (P.underlying T).map TypeDesc.isRow = some true) (hs : (P.info? T).map (·.size) = some cs.size) : (loadVar T ⟨g, 0, none⟩).run P w = .ok (.agg cs) w := by
  obtain ⟨d, hu, hd⟩ := row_of hr
  have := run_loadVar_mid (P := P) w g 0 T cs.toList d h.range hu hd (by simpa using hs)
  simpa using this
def EC (a b : Int) : Array Value := #[.int .i64 a, .int .i64 b]
theorem EC_one (a b : Int) : (EC a b).all (·.oneCell') = true := by
  rw [Array.all_eq_true_iff_forall_mem]
  intro v hv
  simp only [EC, List.mem_toArray, List.mem_cons, List.not_mem_nil, or_false] at hv
  rcases hv with rfl | rfl <;> rfl
/-- A location and whether it is one. -/
def EndP (a b : Int) (c : Bool) (w : World) (e : Ending) (w' : World) : Prop := e = .returned (.tuple #[.agg (EC a b), .bool c]) ∧ Below w.heap.size w w'
/-- The place of a router's name, of an interface's name in it. -/
def rtIdx (rs : List Rt) (n : List UInt8) : Int := idxF (fun x => x.name == n) rs 0
def ifIdx (rs : List Rt) (n f : List UInt8) : Int := idxF (fun x => x.name == f) (rs[(rtIdx rs n).toNat]?.getD default).ifs 0
def ifAt (rs : List Rt) (n f : List UInt8) : If := ((rs[(rtIdx rs n).toNat]?.getD default).ifs[(ifIdx rs n f).toNat]?).getD default
def endV (rs : List Rt) (n f : List UInt8) : Int × Int × Bool :=
  if n.isEmpty then (-1, -1, true) else if rtIdx rs n < 0 then (-1, -1, false) else if f.isEmpty then (rtIdx rs n, -1, true) else if ifIdx rs n f < 0 then (-1, -1, false)
  else (rtIdx rs n, ifIdx rs n f, !((ifAt rs n f).len == 0) && !(ifAt rs n f).down)
theorem rtIdx_nat {rs : List Rt} {n : List UInt8} (h : ¬ rtIdx rs n < 0) : ∃ k : Nat, ∃ hk : k < rs.length, rtIdx rs n = (k : Int) ∧ rs[(rtIdx rs n).toNat]?.getD default = rs[k] := by
  have hb := (idxF_bd (fun (x : Rt) => x.name == n) rs 0).2
  refine ⟨(rtIdx rs n).toNat, by unfold rtIdx at h ⊢; omega, (Int.toNat_of_nonneg (by omega)).symm, ?_⟩
  rw [List.getElem?_eq_getElem (by unfold rtIdx at h ⊢; omega)]; rfl
theorem ifIdx_nat {rs : List Rt} {n f : List UInt8} {k : Nat} {hk : k < rs.length} (he : rs[(rtIdx rs n).toNat]?.getD default = rs[k]) (h : ¬ ifIdx rs n f < 0) : ∃ i : Nat, ∃ hi : i < rs[k].ifs.length, ifIdx rs n f = (i : Int) ∧ ifAt rs n f = rs[k].ifs[i] := by
  have e : ifIdx rs n f = idxF (fun x => x.name == f) rs[k].ifs 0 := by unfold ifIdx; rw [he]
  have hb := (idxF_bd (fun (x : If) => x.name == f) rs[k].ifs 0).2
  refine ⟨(ifIdx rs n f).toNat, by omega, (Int.toNat_of_nonneg (by omega)).symm, ?_⟩
  unfold ifAt
  rw [he, List.getElem?_eq_getElem (by omega)]; rfl
/-- Along the walk of end: the network's block, the result's, the empty location's. -/
structure RE (v : Value) (w0 w : World) : Prop where
  h : HasC 24 w0.heap.size #[v] w
  z : HasC 40 (w0.heap.size + 1) (EC 0 0) w
  o : HasC 40 (w0.heap.size + 1 + 1) (EC (-1) (-1)) w
  b : Below w0.heap.size w0 w
theorem RE.keep {v : Value} {w0 w w' : World} (h : RE v w0 w) (hb : Below w.heap.size w w') : RE v w0 w' := ⟨h.h.keep hb, h.z.keep hb, h.o.keep hb, h.b.trans (hb.mono h.b.size)⟩
theorem RE.start (v : Value) (w : World) : RE v w (((w.alloc (.cells #[v] 24)).alloc (.cells (EC 0 0) 40)).alloc (.cells (EC (-1) (-1)) 40)) := by
  have a1 := Below.refl w.heap.size w
  have a2 := a1.alloc (Nat.le_refl _) (.cells #[v] 24)
  have a3 := a2.alloc (by simp) (.cells (EC 0 0) 40)
  have z := HasC.new (w.alloc (.cells #[v] 24)) 40 (EC 0 0)
  have o := HasC.new ((w.alloc (.cells #[v] 24)).alloc (.cells (EC 0 0) 40)) 40 (EC (-1) (-1))
  rw [show (w.alloc (.cells #[v] 24)).heap.size = w.heap.size + 1 from by simp] at z
  rw [show ((w.alloc (.cells #[v] 24)).alloc (.cells (EC 0 0) 40)).heap.size = w.heap.size + 1 + 1 from by simp] at o
  exact ⟨((HasC.new w _ _).keep ((Below.refl _ _).alloc (Nat.le_refl _) _)).keep ((Below.refl _ _).alloc (Nat.le_refl _) _), z.keep ((Below.refl _ _).alloc (Nat.le_refl _) _), o, a3.alloc (by simp; omega) _⟩
set_option maxRecDepth 100000 in
set_option maxHeartbeats 4000000 in
theorem end_any (rs : List Rt) (v : Value) (n f : List UInt8) (w : World) (B : Nat) (h : NetAt w B v rs) (hB : B ≤ w.heap.size) : Calls Tryz.prog 17 #[.agg #[v], .string (str n), .string (str f)] w (EndP (endV rs n f).1 (endV rs n f).2.1 (endV rs n f).2.2 w) := by
  have H0 := Lib.hid (RE.start v w)
  have HN := Lib.hid h
  have HBB := Lib.hid hB
  clear h hB
  obtain ⟨res, hres⟩ : ∃ res, endV rs n f = res := ⟨_, rfl⟩
  rw [hres]
  have E : Hid (res = if n.isEmpty then (-1, -1, true) else if rtIdx rs n < 0 then (-1, -1, false) else if f.isEmpty then (rtIdx rs n, -1, true) else if ifIdx rs n f < 0 then (-1, -1, false) else (rtIdx rs n, ifIdx rs n f, !((ifAt rs n f).len == 0) && !(ifAt rs n f).down)) := Lib.hid hres.symm
  clear hres
  go_enter Tryz.func17, Tryz.ntmps17
  go_upto_region 2 with fail
  generalize hwy : ((w.alloc (.cells #[v] 24)).alloc (.cells (EC 0 0) 40)).alloc (.cells (EC (-1) (-1)) 40) = wy at H0
  show Code.wp _ _ _ _ (((w.alloc (.cells #[v] 24)).alloc (.cells (EC 0 0) 40)).alloc (.cells (EC (-1) (-1)) 40))
  rw [hwy]
  clear hwy
  by_cases hn : n = []
  · have tn : (str n).toList = [] := by rw [toList_str, hn]
    have E1 : Hid (res = (-1, -1, true)) := Lib.hid (by rw [E.out, hn]; rfl)
    clear hn
    go_wp2_with (first | (refine wpList_loadRow rfl 40 _ rfl rfl H0.out.o.range Tryz.rowEn Tryz.sizeEn ?_) | (refine wpList_storeRow rfl 40 _ _ rfl rfl rfl H0.out.z rfl Tryz.sizeEn (EC_one _ _) ?_; intro wz hz1 hz2))
    refine bodyPost_ret (results_cell2 rfl rfl rfl (hz1.load Tryz.rowEn Tryz.sizeEn)) rfl ?_
    exact ⟨by rw [E1.out]; rfl, H0.out.b.trans (below_of_grown hz2 (Nat.le_succ _) H0.out.b.size)⟩
  obtain ⟨i1, i2, i3⟩ := ne_str hn
  have EN : Hid (res = if rtIdx rs n < 0 then (-1, -1, false) else if f.isEmpty then (rtIdx rs n, -1, true) else if ifIdx rs n f < 0 then (-1, -1, false) else (rtIdx rs n, ifIdx rs n f, !((ifAt rs n f).len == 0) && !(ifAt rs n f).down)) := Lib.hid (by rw [E.out, i1]; rfl)
  clear hn E
  have PR : Hid (∀ w', RE v w w' → Calls Tryz.prog 48 #[.agg #[v], .string (str n)] w' fun e w'' => e = .returned (.int .i64 (rtIdx rs n)) ∧ Below w'.heap.size w' w'') := Lib.hid (fun w' h => router_any rs v n w' B (HN.out.h.below (h.b.mono HBB.out)) (Nat.le_trans HBB.out h.b.size))
  go_wp2_with (first | (refine wpList_loadRow rfl 24 _ rfl rfl H0.out.h.range Tryz.rowNw Tryz.sizeNw ?_))
  clear i1 i2 i3
  with_reducible refine (PR.out _ H0.out).mono ?_
  rintro e w1 ⟨rfl, hb⟩
  have H1 := Lib.hid (H0.out.keep hb)
  clear hb H0 PR
  by_cases hr : rtIdx rs n < 0
  · have E1 : Hid (res = (-1, -1, false)) := Lib.hid (by rw [EN.out, if_pos hr])
    have di := decide_eq_true hr
    clear hr
    go_wp2_with (first | (refine wpList_loadRow rfl 40 _ rfl rfl H1.out.o.range Tryz.rowEn Tryz.sizeEn ?_) | (refine wpList_storeRow rfl 40 _ _ rfl rfl rfl H1.out.z rfl Tryz.sizeEn (EC_one _ _) ?_; intro wz hz1 hz2))
    refine bodyPost_ret (results_cell2 rfl rfl rfl (hz1.load Tryz.rowEn Tryz.sizeEn)) rfl ?_
    exact ⟨by rw [E1.out]; rfl, H1.out.b.trans (below_of_grown hz2 (Nat.le_succ _) H1.out.b.size)⟩
  obtain ⟨k, hk, hk1, hk2⟩ := rtIdx_nat hr
  have EF : Hid (res = if f.isEmpty then ((k : Int), -1, true) else if ifIdx rs n f < 0 then (-1, -1, false) else ((k : Int), ifIdx rs n f, !((ifAt rs n f).len == 0) && !(ifAt rs n f).down)) := Lib.hid (by rw [EN.out, if_neg hr, hk1])
  obtain ⟨g, o, c, ev, hle, hg, R0⟩ := HN.out.h.elem (n := 25) (by decide) (fun _ => rfl) hk
  have HVV := Lib.hid ev
  have c0 : w1.cell? ⟨w.heap.size, 0, none⟩ = some (.slice (some ⟨g, o, none⟩) rs.length c) := by rw [← ev]; exact H1.out.h.cell 0
  have RK := Lib.hid (rangeBelow R0 (H1.out.b.mono HBB.out) hg)
  rw [hk1]
  have hki : (k : Int) < rs.length := by omega
  have dk : decide ((rs.length : Int) ≤ (k : Int)) = false := by simp; omega
  replace hk2 := Lib.hid hk2
  clear EN hr R0 ev
  by_cases hf : f = []
  · have tn : (str f).toList = [] := by rw [toList_str, hf]
    have E1 : Hid (res = ((k : Int), -1, true)) := Lib.hid (by rw [EF.out, hf]; rfl)
    clear hf
    go_wp2_with (first | (refine wpList_storeRow rfl 40 _ _ rfl rfl rfl H1.out.z rfl Tryz.sizeEn (EC_one _ _) ?_; intro wz hz1 hz2))
    refine bodyPost_ret (results_cell2 rfl rfl rfl (hz1.load Tryz.rowEn Tryz.sizeEn)) rfl ?_
    exact ⟨by rw [E1.out]; rfl, H1.out.b.trans (below_of_grown hz2 (Nat.le_succ _) H1.out.b.size)⟩
  obtain ⟨i1, i2, i3⟩ := ne_str hf
  have EI : Hid (res = if ifIdx rs n f < 0 then (-1, -1, false) else ((k : Int), ifIdx rs n f, !((ifAt rs n f).len == 0) && !(ifAt rs n f).down)) := Lib.hid (by rw [EF.out, i1]; rfl)
  clear hf EF
  have PI : Hid (∀ w', RE v w w' → Calls Tryz.prog 49 #[.agg rs[k].C, .string (str f)] w' fun e w'' => e = .returned (.int .i64 (ifIdx rs n f)) ∧ Below w'.heap.size w' w'') := Lib.hid (fun w' h => by
    have e : ifIdx rs n f = idxF (fun x => x.name == f) rs[k].ifs 0 := by unfold ifIdx; rw [hk2.out]
    rw [e]
    exact interface_any rs[k] f w' B ((HN.out.n _ (List.getElem_mem hk)).below (h.b.mono HBB.out)) (Nat.le_trans HBB.out h.b.size))
  go_wp2_with (first | (refine wpList_loadRow rfl 69 _ rfl rfl RK.out Tryz.rowRt Tryz.sizeRt ?_))
  clear i1 i2 i3 dk
  with_reducible refine (PI.out _ H1.out).mono ?_
  rintro e w2 ⟨rfl, hb⟩
  have H2 := Lib.hid (H1.out.keep hb)
  clear hb PI c0 RK
  have hki : (k : Int) < rs.length := by omega
  have c0 : w2.cell? ⟨w.heap.size, 0, none⟩ = some (.slice (some ⟨g, o, none⟩) rs.length c) := by rw [← HVV.out]; exact H2.out.h.cell 0
  by_cases hi : ifIdx rs n f < 0
  · have E1 : Hid (res = (-1, -1, false)) := Lib.hid (by rw [EI.out, if_pos hi])
    have di := decide_eq_true hi
    clear hi H1
    go_wp2_with (first | (refine wpList_loadRow rfl 40 _ rfl rfl H2.out.o.range Tryz.rowEn Tryz.sizeEn ?_) | (refine wpList_storeRow rfl 40 _ _ rfl rfl rfl H2.out.z rfl Tryz.sizeEn (EC_one _ _) ?_; intro wz hz1 hz2))
    refine bodyPost_ret (results_cell2 rfl rfl rfl (hz1.load Tryz.rowEn Tryz.sizeEn)) rfl ?_
    exact ⟨by rw [E1.out]; rfl, H2.out.b.trans (below_of_grown hz2 (Nat.le_succ _) H2.out.b.size)⟩
  obtain ⟨i, hil, hi1, hi2⟩ := ifIdx_nat (hk := hk) hk2.out hi
  have EJ : Hid (res = ((k : Int), (i : Int), !(rs[k].ifs[i].len == 0) && !rs[k].ifs[i].down)) := Lib.hid (by rw [EI.out, if_neg hi, hi1, hi2])
  obtain ⟨g3, o3, cc3, ev3, -, hg3, R3⟩ := HN.out.h.elem (n := 25) (by decide) (fun _ => rfl) hk
  have HA := HN.out.n _ (List.getElem_mem hk)
  obtain ⟨g2, o2, cc2, ev2, hle2, hg2, R2⟩ := HA.hifs.elem (n := 12) (by decide) (fun _ => rfl) hil
  rw [HVV.out] at ev3
  injection ev3 with e1 e2 e3
  injection e1 with e1
  injection e1 with e1 e4
  subst e1 e4
  have r2 : w2.cell? ⟨g, o + k * 25 + 2, none⟩ = some (.slice (some ⟨g2, o2, none⟩) rs[k].ifs.length cc2) := by rw [← ev2]; exact rangeBelow R3 (H2.out.b.mono HBB.out) hg3 2 _ rfl
  have RI := Lib.hid (rangeBelow R2 (H2.out.b.mono HBB.out) hg2)
  have hii : (i : Int) < rs[k].ifs.length := by omega
  rw [hi1]
  clear hi hi1 hi2 EI H1 R2 R3 ev2 e2 e3 HA hk2 HVV
  generalize rs[k].ifs[i] = x at EJ RI
  clear hil
  generalize rs[k].ifs.length = nl at r2 hle2 hii ⊢
  go_upto_region 13 with (first | (refine wpList_loadRow rfl 99 _ rfl rfl RI.out Tryz.rowIf Tryz.sizeIf ?_) | (refine wpList_storeRow rfl 99 _ _ rfl rfl rfl (HasC.new w2 _ _) rfl Tryz.sizeIf (If.one x) ?_; intro w3 hz1 hz2))
  have hzb := blk_lt H2.out.z
  have H3 := Lib.hid (H2.out.keep (new_below hz2))
  have X3 := hz1
  clear hz1 hz2 RI r2 c0 H2
  have hgi : w.heap.size + 1 < w2.heap.size := hzb
  generalize w2.heap.size = gi at X3 hgi ⊢
  have HGI : w.heap.size + 1 < gi := hgi
  have HD := Lib.hid (H3.out.keep (belowDrew _))
  have XD : HasC 99 gi x.C w3.drew := X3.keep (belowDrew _)
  have S0 : w3.drew.cell? ⟨gi, 2, none⟩ = some (.int .i64 x.len) ∧ w3.drew.cell? ⟨gi, 4, none⟩ = some (.bool x.down) := ⟨XD.cell 2, XD.cell 4⟩
  have z0 : w3.drew.cell? ⟨w.heap.size + 1, 0, none⟩ = some (.int .i64 0) := HD.out.z.cell 0
  have z1 : w3.drew.cell? ⟨w.heap.size + 1, 1, none⟩ = some (.int .i64 0) := HD.out.z.cell 1
  have zf0 := HD.out.z.frz 0
  have zf1 := HD.out.z.frz 1
  have HG : Hid (w3.drew.grownBy ((w3.drew.setCell ⟨w.heap.size + 1, 0, none⟩ (.int .i64 (k : Int))).setCell ⟨w.heap.size + 1, 1, none⟩ (.int .i64 (i : Int))) (some (w.heap.size + 1))) := Lib.hid (grown_setCells (w.heap.size + 1) [.int .i64 (k : Int), .int .i64 (i : Int)] 0 w3.drew)
  have HX := XD.grown HG.out (by simp; omega)
  have SX : Hid (((w3.drew.setCell ⟨w.heap.size + 1, 0, none⟩ (.int .i64 (k : Int))).setCell ⟨w.heap.size + 1, 1, none⟩ (.int .i64 (i : Int))).cell? ⟨gi, 2, none⟩ = some (.int .i64 x.len) ∧ ((w3.drew.setCell ⟨w.heap.size + 1, 0, none⟩ (.int .i64 (k : Int))).setCell ⟨w.heap.size + 1, 1, none⟩ (.int .i64 (i : Int))).cell? ⟨gi, 4, none⟩ = some (.bool x.down)) := Lib.hid ⟨HX.cell 2, HX.cell 4⟩
  have HZ : Hid (HasC 40 (w.heap.size + 1) (EC (k : Int) (i : Int)) ((w3.drew.setCell ⟨w.heap.size + 1, 0, none⟩ (.int .i64 (k : Int))).setCell ⟨w.heap.size + 1, 1, none⟩ (.int .i64 (i : Int)))) := Lib.hid (HD.out.z.stored (ds := EC (k : Int) (i : Int)) rfl)
  have HB := Lib.hid (HD.out.b.trans (below_of_grown HG.out (Nat.le_succ _) HD.out.b.size))
  clear X3 XD HG HX HD H3 HGI
  generalize hwd : w3.drew = wd at S0 z0 z1 zf0 zf1 SX HZ HB
  by_cases hl : x.len = 0
  · have E1 : Hid (res = ((k : Int), (i : Int), false)) := Lib.hid (by rw [EJ.out, hl]; rfl)
    rw [hl] at S0 SX
    clear hl EJ
    refine wp_region_held (S := fun w' => w'.cell? ⟨gi, 2, none⟩ = some (.int .i64 0) ∧ w'.cell? ⟨gi, 4, none⟩ = some (.bool x.down)) (by kernel_rfl) ?_
    rw [show ({ w3 with drawn := w3.drawn + 1 } : World) = wd from hwd]
    refine wpAnyH_take (i := 0) (oi := { dst := some 63, op := Op.move (Operand.tmp 9), type := 3, pos := "query.go:79", after := #[], guard := none }) (v := ?_) rfl (by kernel_rfl) (by kernel_rfl) (by kernel_rfl) (fun _ _ _ h => h) (Or.inl ⟨by rfl, ?_⟩) (by assumption) ?_
    rotate_left
    · (intro w hSw; (try dsimp only at hSw); go_simp; try with_reducible rfl)
    try simp only [Act.put, List.setIfInBounds_toArray, List.set_cons_zero, List.set_cons_succ]
    refine wpAnyH_take (i := 1) (oi := { dst := some 64, op := Op.move (Operand.tmp 10), type := 3, pos := "query.go:79", after := #[], guard := none }) (v := ?_) rfl (by kernel_rfl) (by kernel_rfl) (by kernel_rfl) (fun _ _ _ h => h) (Or.inl ⟨by rfl, ?_⟩) (by assumption) ?_
    rotate_left
    · (intro w hSw; (try dsimp only at hSw); go_simp; try with_reducible rfl)
    try simp only [Act.put, List.setIfInBounds_toArray, List.set_cons_zero, List.set_cons_succ]
    refine wpAnyH_take (i := 2) (oi := { dst := some 65, op := Op.build 40 #[(0, Operand.tmp 63), (1, Operand.tmp 64)], type := 40, pos := "query.go:79", after := #[{ on := 0, ground := Ground.data }, { on := 1, ground := Ground.data }], guard := none }) (v := ?_) rfl (by kernel_rfl) (by kernel_rfl) (by kernel_rfl) (fun _ _ _ h => h) (Or.inl ⟨by rfl, ?_⟩) (by assumption) ?_
    rotate_left
    · (intro w hSw; (try dsimp only at hSw); go_simp; try with_reducible rfl)
    try simp only [Act.put, List.setIfInBounds_toArray, List.set_cons_zero, List.set_cons_succ]
    refine wpAnyH_take (i := 3) (oi := { dst := some 66, op := Op.fieldAddr 99 (Operand.tmp 11) 2, type := 0, pos := "query.go:79", after := #[], guard := none }) (v := ?_) rfl (by kernel_rfl) (by kernel_rfl) (by kernel_rfl) (fun _ _ _ h => h) (Or.inl ⟨by rfl, ?_⟩) (by assumption) ?_
    rotate_left
    · (intro w hSw; (try dsimp only at hSw); go_simp; try with_reducible rfl)
    try simp only [Act.put, List.setIfInBounds_toArray, List.set_cons_zero, List.set_cons_succ]
    refine wpAnyH_take (i := 4) (oi := { dst := some 67, op := Op.load 3 (Operand.tmp 66), type := 3, pos := "query.go:79", after := #[{ on := 3, ground := Ground.data }], guard := none }) (v := ?_) rfl (by kernel_rfl) (by kernel_rfl) (by kernel_rfl) (fun _ _ _ h => h) (Or.inl ⟨by rfl, ?_⟩) (by assumption) ?_
    rotate_left
    · (intro w hSw; (try dsimp only at hSw); go_simp; try with_reducible rfl)
    try simp only [Act.put, List.setIfInBounds_toArray, List.set_cons_zero, List.set_cons_succ]
    refine wpAnyH_take (i := 5) (oi := { dst := some 68, op := Op.binOp BinOp.neq 3 (Operand.tmp 67) (Operand.const (Value.int IntKind.i64 0)) 3, type := 4, pos := "query.go:79", after := #[{ on := 4, ground := Ground.data }], guard := none }) (v := ?_) rfl (by kernel_rfl) (by kernel_rfl) (by kernel_rfl) (fun _ _ _ h => h) (Or.inl ⟨by rfl, ?_⟩) (by assumption) ?_
    rotate_left
    · (intro w hSw; (try dsimp only at hSw); go_simp; try with_reducible rfl)
    try simp only [Act.put, List.setIfInBounds_toArray, List.set_cons_zero, List.set_cons_succ]
    refine wpAnyH_take (i := 6) (oi := { dst := some 69, op := Op.move (Operand.tmp 68), type := 4, pos := "query.go:79", after := #[{ on := 5, ground := Ground.data }], guard := none }) (v := ?_) rfl (by kernel_rfl) (by kernel_rfl) (by kernel_rfl) (fun _ _ _ h => h) (Or.inl ⟨by rfl, ?_⟩) (by assumption) ?_
    rotate_left
    · (intro w hSw; (try dsimp only at hSw); go_simp; try with_reducible rfl)
    try simp only [Act.put, List.setIfInBounds_toArray, List.set_cons_zero, List.set_cons_succ]
    refine wpAnyH_take (i := 7) (oi := { dst := some 70, op := Op.fieldAddr 99 (Operand.tmp 11) 4, type := 0, pos := "query.go:79", after := #[{ on := 6, ground := Ground.guard }, { on := 11, ground := Ground.gcOnly Departure.lateStores }], guard := some (6, true) }) (v := undef) rfl (by kernel_rfl) (by kernel_rfl) (by kernel_rfl) (fun _ _ _ h => h) (Or.inr ⟨by rfl, rfl⟩) (by assumption) ?_
    try simp only [Act.put, List.setIfInBounds_toArray, List.set_cons_zero, List.set_cons_succ]
    refine wpAnyH_take (i := 8) (oi := { dst := some 71, op := Op.load 4 (Operand.tmp 70), type := 4, pos := "query.go:79", after := #[{ on := 7, ground := Ground.data }, { on := 6, ground := Ground.guard }, { on := 11, ground := Ground.gcOnly Departure.lateStores }], guard := some (6, true) }) (v := undef) rfl (by kernel_rfl) (by kernel_rfl) (by kernel_rfl) (fun _ _ _ h => h) (Or.inr ⟨by rfl, rfl⟩) (by assumption) ?_
    try simp only [Act.put, List.setIfInBounds_toArray, List.set_cons_zero, List.set_cons_succ]
    refine wpAnyH_take (i := 9) (oi := { dst := some 72, op := Op.unOp UnOp.not 4 (Operand.tmp 71), type := 4, pos := "query.go:79", after := #[{ on := 8, ground := Ground.data }, { on := 6, ground := Ground.guard }, { on := 11, ground := Ground.gcOnly Departure.lateStores }], guard := some (6, true) }) (v := undef) rfl (by kernel_rfl) (by kernel_rfl) (by kernel_rfl) (fun _ _ _ h => h) (Or.inr ⟨by rfl, rfl⟩) (by assumption) ?_
    try simp only [Act.put, List.setIfInBounds_toArray, List.set_cons_zero, List.set_cons_succ]
    refine wpAnyH_take (i := 10) (oi := { dst := some 73, op := Op.pick (Operand.tmp 69) (Operand.tmp 72) (Operand.const (Value.bool false)), type := 4, pos := "query.go:79", after := #[{ on := 6, ground := Ground.data }, { on := 9, ground := Ground.data }, { on := 11, ground := Ground.gcOnly Departure.lateStores }], guard := none }) (v := ?_) rfl (by kernel_rfl) (by kernel_rfl) (by kernel_rfl) (fun _ _ _ h => h) (Or.inl ⟨by rfl, ?_⟩) (by assumption) ?_
    rotate_left
    · (intro w hSw; (try dsimp only at hSw); go_simp; try with_reducible rfl)
    try simp only [Act.put, List.setIfInBounds_toArray, List.set_cons_zero, List.set_cons_succ]
    refine wpAnyH_ready (rs := [11]) (by kernel_rfl) (by simp) ?_
    refine AllReadyH.cons (o := { dst := none, op := Op.store 40 (Operand.tmp 6) (Operand.tmp 65), type := 0, pos := "query.go:79", after := #[{ on := 2, ground := Ground.data }, { on := 6, ground := Ground.chain }, { on := 0, ground := Ground.phase }, { on := 1, ground := Ground.phase }, { on := 2, ground := Ground.phase }, { on := 3, ground := Ground.textOnly Departure.lateStores }, { on := 4, ground := Ground.textOnly Departure.lateStores }, { on := 5, ground := Ground.textOnly Departure.lateStores }, { on := 6, ground := Ground.textOnly Departure.lateStores }, { on := 7, ground := Ground.textOnly Departure.lateStores }, { on := 8, ground := Ground.textOnly Departure.lateStores }, { on := 9, ground := Ground.textOnly Departure.lateStores }, { on := 10, ground := Ground.textOnly Departure.lateStores }], guard := none }) rfl (fun K hK => ?_) AllReadyH.nil
    go_simp
    refine hK.out _ _ SX.out (fun _ => ?_)
    clear hK K
    try simp only [Act.put, List.setIfInBounds_toArray, List.set_cons_zero, List.set_cons_succ]
    refine wpAnyH_take (i := 12) (oi := { dst := some 7, op := Op.assign (Operand.tmp 73), type := 4, pos := "query.go:79", after := #[{ on := 10, ground := Ground.data }, { on := 11, ground := Ground.chain }, { on := 0, ground := Ground.phase }, { on := 1, ground := Ground.phase }, { on := 2, ground := Ground.phase }, { on := 3, ground := Ground.phase }, { on := 4, ground := Ground.phase }, { on := 5, ground := Ground.phase }, { on := 6, ground := Ground.phase }, { on := 7, ground := Ground.phase }, { on := 8, ground := Ground.phase }, { on := 9, ground := Ground.phase }, { on := 10, ground := Ground.phase }, { on := 11, ground := Ground.phase }], guard := none }) (v := ?_) rfl (by kernel_rfl) (by kernel_rfl) (by kernel_rfl) (fun _ _ _ h => h) (Or.inl ⟨by rfl, ?_⟩) (by assumption) ?_
    rotate_left
    · (intro w hSw; (try dsimp only at hSw); go_simp; try with_reducible rfl)
    try simp only [Act.put, List.setIfInBounds_toArray, List.set_cons_zero, List.set_cons_succ]
    refine wpAnyH_done (by kernel_rfl) ?_ _
    clear z0 z1 zf0 zf1 S0 SX hwd
    generalize (wd.setCell ⟨w.heap.size + 1, 0, none⟩ (.int .i64 (k : Int))).setCell ⟨w.heap.size + 1, 1, none⟩ (.int .i64 (i : Int)) = we at HZ HB ⊢
    go_wp2_with fail
    refine bodyPost_ret (results_cell2 rfl rfl rfl (HZ.out.load Tryz.rowEn Tryz.sizeEn)) rfl ?_
    exact ⟨by rw [E1.out]; rfl, HB.out⟩
  have d1 : (x.len == 0) = false := by simpa using hl
  have d2 : (x.len != 0) = true := by simpa using hl
  have E1 : Hid (res = ((k : Int), (i : Int), !x.down)) := Lib.hid (by rw [EJ.out, d1]; rfl)
  clear hl EJ
  refine wp_region_held (S := fun w' => w'.cell? ⟨gi, 2, none⟩ = some (.int .i64 x.len) ∧ w'.cell? ⟨gi, 4, none⟩ = some (.bool x.down)) (by kernel_rfl) ?_
  rw [show ({ w3 with drawn := w3.drawn + 1 } : World) = wd from hwd]
  refine wpAnyH_take (i := 0) (oi := { dst := some 63, op := Op.move (Operand.tmp 9), type := 3, pos := "query.go:79", after := #[], guard := none }) (v := ?_) rfl (by kernel_rfl) (by kernel_rfl) (by kernel_rfl) (fun _ _ _ h => h) (Or.inl ⟨by rfl, ?_⟩) (by assumption) ?_
  rotate_left
  · (intro w hSw; (try dsimp only at hSw); go_simp; try with_reducible rfl)
  try simp only [Act.put, List.setIfInBounds_toArray, List.set_cons_zero, List.set_cons_succ]
  refine wpAnyH_take (i := 1) (oi := { dst := some 64, op := Op.move (Operand.tmp 10), type := 3, pos := "query.go:79", after := #[], guard := none }) (v := ?_) rfl (by kernel_rfl) (by kernel_rfl) (by kernel_rfl) (fun _ _ _ h => h) (Or.inl ⟨by rfl, ?_⟩) (by assumption) ?_
  rotate_left
  · (intro w hSw; (try dsimp only at hSw); go_simp; try with_reducible rfl)
  try simp only [Act.put, List.setIfInBounds_toArray, List.set_cons_zero, List.set_cons_succ]
  refine wpAnyH_take (i := 2) (oi := { dst := some 65, op := Op.build 40 #[(0, Operand.tmp 63), (1, Operand.tmp 64)], type := 40, pos := "query.go:79", after := #[{ on := 0, ground := Ground.data }, { on := 1, ground := Ground.data }], guard := none }) (v := ?_) rfl (by kernel_rfl) (by kernel_rfl) (by kernel_rfl) (fun _ _ _ h => h) (Or.inl ⟨by rfl, ?_⟩) (by assumption) ?_
  rotate_left
  · (intro w hSw; (try dsimp only at hSw); go_simp; try with_reducible rfl)
  try simp only [Act.put, List.setIfInBounds_toArray, List.set_cons_zero, List.set_cons_succ]
  refine wpAnyH_take (i := 3) (oi := { dst := some 66, op := Op.fieldAddr 99 (Operand.tmp 11) 2, type := 0, pos := "query.go:79", after := #[], guard := none }) (v := ?_) rfl (by kernel_rfl) (by kernel_rfl) (by kernel_rfl) (fun _ _ _ h => h) (Or.inl ⟨by rfl, ?_⟩) (by assumption) ?_
  rotate_left
  · (intro w hSw; (try dsimp only at hSw); go_simp; try with_reducible rfl)
  try simp only [Act.put, List.setIfInBounds_toArray, List.set_cons_zero, List.set_cons_succ]
  refine wpAnyH_take (i := 4) (oi := { dst := some 67, op := Op.load 3 (Operand.tmp 66), type := 3, pos := "query.go:79", after := #[{ on := 3, ground := Ground.data }], guard := none }) (v := ?_) rfl (by kernel_rfl) (by kernel_rfl) (by kernel_rfl) (fun _ _ _ h => h) (Or.inl ⟨by rfl, ?_⟩) (by assumption) ?_
  rotate_left
  · (intro w hSw; (try dsimp only at hSw); go_simp; try with_reducible rfl)
  try simp only [Act.put, List.setIfInBounds_toArray, List.set_cons_zero, List.set_cons_succ]
  refine wpAnyH_take (i := 5) (oi := { dst := some 68, op := Op.binOp BinOp.neq 3 (Operand.tmp 67) (Operand.const (Value.int IntKind.i64 0)) 3, type := 4, pos := "query.go:79", after := #[{ on := 4, ground := Ground.data }], guard := none }) (v := ?_) rfl (by kernel_rfl) (by kernel_rfl) (by kernel_rfl) (fun _ _ _ h => h) (Or.inl ⟨by rfl, ?_⟩) (by assumption) ?_
  rotate_left
  · (intro w hSw; (try dsimp only at hSw); go_simp; try with_reducible rfl)
  try simp only [Act.put, List.setIfInBounds_toArray, List.set_cons_zero, List.set_cons_succ]
  refine wpAnyH_take (i := 6) (oi := { dst := some 69, op := Op.move (Operand.tmp 68), type := 4, pos := "query.go:79", after := #[{ on := 5, ground := Ground.data }], guard := none }) (v := ?_) rfl (by kernel_rfl) (by kernel_rfl) (by kernel_rfl) (fun _ _ _ h => h) (Or.inl ⟨by rfl, ?_⟩) (by assumption) ?_
  rotate_left
  · (intro w hSw; (try dsimp only at hSw); go_simp; try with_reducible rfl)
  try simp only [Act.put, List.setIfInBounds_toArray, List.set_cons_zero, List.set_cons_succ]
  refine wpAnyH_take (i := 7) (oi := { dst := some 70, op := Op.fieldAddr 99 (Operand.tmp 11) 4, type := 0, pos := "query.go:79", after := #[{ on := 6, ground := Ground.guard }, { on := 11, ground := Ground.gcOnly Departure.lateStores }], guard := some (6, true) }) (v := ?_) rfl (by kernel_rfl) (by kernel_rfl) (by kernel_rfl) (fun _ _ _ h => h) (Or.inl ⟨by rfl, ?_⟩) (by assumption) ?_
  rotate_left
  · (intro w hSw; (try dsimp only at hSw); go_simp; try with_reducible rfl)
  try simp only [Act.put, List.setIfInBounds_toArray, List.set_cons_zero, List.set_cons_succ]
  refine wpAnyH_take (i := 8) (oi := { dst := some 71, op := Op.load 4 (Operand.tmp 70), type := 4, pos := "query.go:79", after := #[{ on := 7, ground := Ground.data }, { on := 6, ground := Ground.guard }, { on := 11, ground := Ground.gcOnly Departure.lateStores }], guard := some (6, true) }) (v := ?_) rfl (by kernel_rfl) (by kernel_rfl) (by kernel_rfl) (fun _ _ _ h => h) (Or.inl ⟨by rfl, ?_⟩) (by assumption) ?_
  rotate_left
  · (intro w hSw; (try dsimp only at hSw); go_simp; try with_reducible rfl)
  try simp only [Act.put, List.setIfInBounds_toArray, List.set_cons_zero, List.set_cons_succ]
  refine wpAnyH_take (i := 9) (oi := { dst := some 72, op := Op.unOp UnOp.not 4 (Operand.tmp 71), type := 4, pos := "query.go:79", after := #[{ on := 8, ground := Ground.data }, { on := 6, ground := Ground.guard }, { on := 11, ground := Ground.gcOnly Departure.lateStores }], guard := some (6, true) }) (v := ?_) rfl (by kernel_rfl) (by kernel_rfl) (by kernel_rfl) (fun _ _ _ h => h) (Or.inl ⟨by rfl, ?_⟩) (by assumption) ?_
  rotate_left
  · (intro w hSw; (try dsimp only at hSw); go_simp; try with_reducible rfl)
  try simp only [Act.put, List.setIfInBounds_toArray, List.set_cons_zero, List.set_cons_succ]
  refine wpAnyH_take (i := 10) (oi := { dst := some 73, op := Op.pick (Operand.tmp 69) (Operand.tmp 72) (Operand.const (Value.bool false)), type := 4, pos := "query.go:79", after := #[{ on := 6, ground := Ground.data }, { on := 9, ground := Ground.data }, { on := 11, ground := Ground.gcOnly Departure.lateStores }], guard := none }) (v := ?_) rfl (by kernel_rfl) (by kernel_rfl) (by kernel_rfl) (fun _ _ _ h => h) (Or.inl ⟨by rfl, ?_⟩) (by assumption) ?_
  rotate_left
  · (intro w hSw; (try dsimp only at hSw); go_simp; try with_reducible rfl)
  try simp only [Act.put, List.setIfInBounds_toArray, List.set_cons_zero, List.set_cons_succ]
  refine wpAnyH_ready (rs := [11]) (by kernel_rfl) (by simp) ?_
  refine AllReadyH.cons (o := { dst := none, op := Op.store 40 (Operand.tmp 6) (Operand.tmp 65), type := 0, pos := "query.go:79", after := #[{ on := 2, ground := Ground.data }, { on := 6, ground := Ground.chain }, { on := 0, ground := Ground.phase }, { on := 1, ground := Ground.phase }, { on := 2, ground := Ground.phase }, { on := 3, ground := Ground.textOnly Departure.lateStores }, { on := 4, ground := Ground.textOnly Departure.lateStores }, { on := 5, ground := Ground.textOnly Departure.lateStores }, { on := 6, ground := Ground.textOnly Departure.lateStores }, { on := 7, ground := Ground.textOnly Departure.lateStores }, { on := 8, ground := Ground.textOnly Departure.lateStores }, { on := 9, ground := Ground.textOnly Departure.lateStores }, { on := 10, ground := Ground.textOnly Departure.lateStores }], guard := none }) rfl (fun K hK => ?_) AllReadyH.nil
  go_simp
  refine hK.out _ _ SX.out (fun _ => ?_)
  clear hK K
  try simp only [Act.put, List.setIfInBounds_toArray, List.set_cons_zero, List.set_cons_succ]
  refine wpAnyH_take (i := 12) (oi := { dst := some 7, op := Op.assign (Operand.tmp 73), type := 4, pos := "query.go:79", after := #[{ on := 10, ground := Ground.data }, { on := 11, ground := Ground.chain }, { on := 0, ground := Ground.phase }, { on := 1, ground := Ground.phase }, { on := 2, ground := Ground.phase }, { on := 3, ground := Ground.phase }, { on := 4, ground := Ground.phase }, { on := 5, ground := Ground.phase }, { on := 6, ground := Ground.phase }, { on := 7, ground := Ground.phase }, { on := 8, ground := Ground.phase }, { on := 9, ground := Ground.phase }, { on := 10, ground := Ground.phase }, { on := 11, ground := Ground.phase }], guard := none }) (v := ?_) rfl (by kernel_rfl) (by kernel_rfl) (by kernel_rfl) (fun _ _ _ h => h) (Or.inl ⟨by rfl, ?_⟩) (by assumption) ?_
  rotate_left
  · (intro w hSw; (try dsimp only at hSw); go_simp; try with_reducible rfl)
  try simp only [Act.put, List.setIfInBounds_toArray, List.set_cons_zero, List.set_cons_succ]
  refine wpAnyH_done (by kernel_rfl) ?_ _
  clear z0 z1 zf0 zf1 S0 SX hwd
  generalize (wd.setCell ⟨w.heap.size + 1, 0, none⟩ (.int .i64 (k : Int))).setCell ⟨w.heap.size + 1, 1, none⟩ (.int .i64 (i : Int)) = we at HZ HB ⊢
  go_wp2_with fail
  refine bodyPost_ret (results_cell2 rfl rfl rfl (HZ.out.load Tryz.rowEn Tryz.sizeEn)) rfl ?_
  exact ⟨by rw [E1.out]; rfl, HB.out⟩
end Go.Proofs.YtnhemjdmleilcaaGreatDoor

/- The walk of the reference's place. Conditions: the router lies in memory. -/
namespace Go.Proofs.YtnhemjdmleilcaaGreatDoor
open Go.RowKit

def upI (f : List UInt8) (x : If) : Bool := x.name == f && decide (0 < x.len) && !x.down
def ifsAt (rs : List Rt) (n : List UInt8) : List If := (rs[(rtIdx rs n).toNat]?.getD default).ifs
/-- The reference's place. -/
def placeV (rs : List Rt) (n f : List UInt8) : Int × Int × Bool :=
  if rtIdx rs n < 0 then (rtIdx rs n, -1, false) else if f.isEmpty then (rtIdx rs n, -1, true) else if idxF (upI f) (ifsAt rs n) 0 < 0 then (0, 0, false) else (rtIdx rs n, idxF (upI f) (ifsAt rs n) 0, true)
structure RP (v : Value) (w0 w : World) : Prop where
  h : HasC 24 w0.heap.size #[v] w
  z : HasC 40 (w0.heap.size + 1) (EC 0 0) w
  b : Below w0.heap.size w0 w
theorem RP.keep {v : Value} {w0 w w' : World} (h : RP v w0 w) (hb : Below w.heap.size w w') : RP v w0 w' := ⟨h.h.keep hb, h.z.keep hb, h.b.trans (hb.mono h.b.size)⟩
theorem RP.start (v : Value) (w : World) : RP v w ((w.alloc (.cells #[v] 24)).alloc (.cells (EC 0 0) 40)) := by
  have a1 := Below.refl w.heap.size w
  have a2 := a1.alloc (Nat.le_refl _) (.cells #[v] 24)
  have z := HasC.new (w.alloc (.cells #[v] 24)) 40 (EC 0 0)
  rw [show (w.alloc (.cells #[v] 24)).heap.size = w.heap.size + 1 from by simp] at z
  exact ⟨(HasC.new w _ _).keep ((Below.refl _ _).alloc (Nat.le_refl _) _), z, a2.alloc (by simp) _⟩
set_option maxRecDepth 100000 in
set_option maxHeartbeats 4000000 in
theorem rplace_any (rs : List Rt) (v : Value) (n f : List UInt8) (w : World) (B : Nat) (h : NetAt w B v rs) (hB : B ≤ w.heap.size) : Calls Tryz.prog 19 #[.agg #[v], .string (str n), .string (str f)] w (EndP (placeV rs n f).1 (placeV rs n f).2.1 (placeV rs n f).2.2 w) := by
  have H0 := Lib.hid (RP.start v w)
  have HN := Lib.hid h
  have HBB := Lib.hid hB
  clear h hB
  obtain ⟨res, hres⟩ : ∃ res, placeV rs n f = res := ⟨_, rfl⟩
  rw [hres]
  have E : Hid (res = if rtIdx rs n < 0 then (rtIdx rs n, -1, false) else if f.isEmpty then (rtIdx rs n, -1, true) else if idxF (upI f) (ifsAt rs n) 0 < 0 then (0, 0, false) else (rtIdx rs n, idxF (upI f) (ifsAt rs n) 0, true)) := Lib.hid hres.symm
  clear hres
  have PR : Hid (∀ w', RP v w w' → Calls Tryz.prog 20 #[.agg #[v], .string (str n)] w' fun e w'' => e = .returned (.int .i64 (rtIdx rs n)) ∧ Below w'.heap.size w' w'') := Lib.hid (fun w' h => rrouter_any rs v n w' B (HN.out.h.below (h.b.mono HBB.out)) (Nat.le_trans HBB.out h.b.size))
  go_enter Tryz.func19, Tryz.ntmps19
  go_upto_region 1 with fail
  generalize hwy : (w.alloc (.cells #[v] 24)).alloc (.cells (EC 0 0) 40) = wy at H0
  show Code.wp _ _ _ _ ((w.alloc (.cells #[v] 24)).alloc (.cells (EC 0 0) 40))
  rw [hwy]
  clear hwy
  go_wp2_with (first | (refine wpList_loadRow rfl 24 _ rfl rfl H0.out.h.range Tryz.rowNw Tryz.sizeNw ?_))
  with_reducible refine (PR.out _ H0.out).mono ?_
  rintro e w1 ⟨rfl, hb⟩
  have H1 := Lib.hid (H0.out.keep hb)
  clear hb H0 PR
  by_cases hr : rtIdx rs n < 0
  · have E1 : Hid (res = (rtIdx rs n, -1, false)) := Lib.hid (by rw [E.out, if_pos hr])
    generalize rtIdx rs n = q at *
    have di := decide_eq_true hr
    have dg : decide (0 ≤ q) = false := by simpa using hr
    clear hr
    go_wp2_with (first | (refine wpList_storeRow rfl 40 _ _ rfl rfl rfl H1.out.z rfl Tryz.sizeEn (EC_one _ _) ?_; intro wz hz1 hz2))
    refine bodyPost_ret (results_cell2 rfl rfl rfl (hz1.load Tryz.rowEn Tryz.sizeEn)) rfl ?_
    exact ⟨by rw [E1.out]; rfl, H1.out.b.trans (below_of_grown hz2 (Nat.le_succ _) H1.out.b.size)⟩
  obtain ⟨k, hk, hk1, hk2⟩ := rtIdx_nat hr
  have EF : Hid (res = if f.isEmpty then ((k : Int), -1, true) else if idxF (upI f) rs[k].ifs 0 < 0 then (0, 0, false) else ((k : Int), idxF (upI f) rs[k].ifs 0, true)) := Lib.hid (by rw [E.out, if_neg hr]; unfold ifsAt; rw [hk2, hk1])
  obtain ⟨g, o, c, ev, hle, hg, R0⟩ := HN.out.h.elem (n := 25) (by decide) (fun _ => rfl) hk
  have c0 : w1.cell? ⟨w.heap.size, 0, none⟩ = some (.slice (some ⟨g, o, none⟩) rs.length c) := by rw [← ev]; exact H1.out.h.cell 0
  have HA := Lib.hid (HN.out.n _ (List.getElem_mem hk))
  obtain ⟨A2, cc2, ev2, hle2, -⟩ := HA.out.hifs
  have HV2 := Lib.hid ev2
  have r2 : w1.cell? ⟨g, o + k * 25 + 2, none⟩ = some (.slice A2 rs[k].ifs.length cc2) := by rw [← ev2]; exact rangeBelow R0 (H1.out.b.mono HBB.out) hg 2 _ rfl
  rw [hk1]
  have hki : (k : Int) < rs.length := by omega
  have hlen : rs[k].ifs.length ≤ 9223372036854775807 := by have := HA.out.hifs.len; simp only [maxLen] at this; exact Nat.le_trans this (by omega)
  clear E hr R0 ev hk1 hk2 ev2
  by_cases hf : f = []
  · have tn : (str f).toList = [] := by rw [toList_str, hf]
    have E1 : Hid (res = ((k : Int), -1, true)) := Lib.hid (by rw [EF.out, hf]; rfl)
    clear hf
    go_wp2_with (first | (refine wpList_storeRow rfl 40 _ _ rfl rfl rfl H1.out.z rfl Tryz.sizeEn (EC_one _ _) ?_; intro wz hz1 hz2))
    refine bodyPost_ret (results_cell2 rfl rfl rfl (hz1.load Tryz.rowEn Tryz.sizeEn)) rfl ?_
    exact ⟨by rw [E1.out]; rfl, H1.out.b.trans (below_of_grown hz2 (Nat.le_succ _) H1.out.b.size)⟩
  obtain ⟨i1, i2, i3⟩ := ne_str hf
  obtain ⟨ri, hri⟩ : ∃ ri, idxF (upI f) rs[k].ifs 0 = ri := ⟨_, rfl⟩
  have EI : Hid (res = if ri < 0 then (0, 0, false) else ((k : Int), ri, true)) := Lib.hid (by rw [EF.out, i1, hri]; rfl)
  clear hf EF
  have SLV := Lib.hid HA.out.hifs
  clear HA
  generalize rs[k].ifs = l at *
  go_wp2_with fail
  clear i1 i2 i3 c0 r2
  go_loopg [10] l.length (fun gh ix wr => ∃ j : Nat, j + gh = l.length ∧ ix = .int .i64 j ∧ Hid (RP v w wr) ∧ Hid (idxF (upI f) (l.drop j) j = ri))
  case atStart => exact ⟨0, by omega, rfl, H1, Lib.hid hri⟩
  case round =>
    obtain ⟨j, hj, rfl, HW, HG⟩ := hrel
    clear H1 hri
    by_cases hlt : j < l.length
    case neg =>
      have E0 := idxF_end hlt HG.out
      have E1 : Hid (res = (0, 0, false)) := Lib.hid (by rw [EI.out, E0]; rfl)
      clear E0
      go_wp2_with (first | (refine wpList_storeRow rfl 40 _ _ rfl rfl rfl HW.out.z rfl Tryz.sizeEn (EC_one _ _) ?_; intro wz hz1 hz2))
      refine bodyPost_ret (results_cell2 rfl rfl rfl (hz1.load Tryz.rowEn Tryz.sizeEn)) rfl ?_
      exact ⟨by rw [E1.out]; rfl, HW.out.b.trans (below_of_grown hz2 (Nat.le_succ _) HW.out.b.size)⟩
    have HAT := Lib.hid (idxF_step hlt HG.out)
    obtain ⟨g2, o2, c', e', -, hg2, R0⟩ := SLV.out.elem (n := 12) (by decide) (fun _ => rfl) hlt
    rw [HV2.out] at e'
    injection e' with e1 e2 e3
    subst e1 e3
    have r1 := rangeBelow R0 (HW.out.b.mono HBB.out) hg2
    have k0 : wr.cell? ⟨g2, o2 + j * 12, none⟩ = some (.string (str l[j].name)) := r1 0 _ rfl
    have k2 : wr.cell? ⟨g2, o2 + j * 12 + 2, none⟩ = some (.int .i64 l[j].len) := r1 2 _ rfl
    have k4 : wr.cell? ⟨g2, o2 + j * 12 + 4, none⟩ = some (.bool l[j].down) := r1 4 _ rfl
    clear R0 HG e2 r1
    generalize l[j] = y at HAT k0 k2 k4
    have qn : ((str y.name).toList == (str f).toList) = (y.name == f) := by rw [toList_str, toList_str]
    have hji : (j : Int) < l.length := by omega
    have PU : Hid (upI f y = (y.name == f && decide (0 < y.len) && !y.down)) := Lib.hid rfl
    generalize hnf : (y.name == f) = b at qn PU
    clear hnf
    cases b with
    | false =>
      have U0 : Hid (upI f y = false) := Lib.hid (by rw [PU.out]; rfl)
      have EN : Hid (idxF (upI f) (l.drop (j + 1)) (j + 1) = ri) := Lib.hid (by rw [HAT.out, U0.out]; rfl)
      go_wp2_with fail
      go_roundg (l.length - (j + 1))
      case measure => omega
      case rel => exact ⟨j + 1, by omega, by go_num, HW, EN⟩
    | true =>
    by_cases hl : 0 < y.len
    case neg =>
      have d1 := decide_eq_false hl
      have U0 : Hid (upI f y = false) := Lib.hid (by rw [PU.out, d1]; rfl)
      clear hl
      have EN : Hid (idxF (upI f) (l.drop (j + 1)) (j + 1) = ri) := Lib.hid (by rw [HAT.out, U0.out]; rfl)
      go_wp2_with fail
      go_roundg (l.length - (j + 1))
      case measure => omega
      case rel => exact ⟨j + 1, by omega, by go_num, HW, EN⟩
    have d1 := decide_eq_true hl
    have U1 : Hid (upI f y = !y.down) := Lib.hid (by rw [PU.out, d1]; rfl)
    clear hl PU
    cases hd : y.down with
    | true =>
      rw [hd] at k4
      have U0 : Hid (upI f y = false) := Lib.hid (by rw [U1.out, hd]; rfl)
      have EN : Hid (idxF (upI f) (l.drop (j + 1)) (j + 1) = ri) := Lib.hid (by rw [HAT.out, U0.out]; rfl)
      go_wp2_with fail
      go_roundg (l.length - (j + 1))
      case measure => omega
      case rel => exact ⟨j + 1, by omega, by go_num, HW, EN⟩
    | false =>
      rw [hd] at k4
      have E1 : Hid (res = ((k : Int), (j : Int), true)) := Lib.hid (by rw [EI.out, HAT.out, U1.out, hd]; first | (simp; done) | (simp; omega))
      go_wp2_with (first | (refine wpList_storeRow rfl 40 _ _ rfl rfl rfl HW.out.z rfl Tryz.sizeEn (EC_one _ _) ?_; intro wz hz1 hz2))
      refine bodyPost_ret (results_cell2 rfl rfl rfl (hz1.load Tryz.rowEn Tryz.sizeEn)) rfl ?_
      exact ⟨by rw [E1.out]; rfl, HW.out.b.trans (below_of_grown hz2 (Nat.le_succ _) HW.out.b.size)⟩
end Go.Proofs.YtnhemjdmleilcaaGreatDoor
