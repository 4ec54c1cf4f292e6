/- The walks of checkPrefixLists, checkRouteMaps, checkACLs. Conditions: the router lies in memory, addresses are numbers below 2^32. -/
import Derived.Test.YtnhemjdmleilcaaGreatDoorModD
namespace Go.Proofs.YtnhemjdmleilcaaGreatDoor
open Go.RowKit

def firstE {β : Type} (f : β → Int) : List β → Int
  | [] => 0
  | y :: r => if f y = 0 then firstE f r else f y
theorem firstE_at {β : Type} {f : β → Int} {l : List β} {j : Nat} {R : Int} (h : j < l.length) (hR : firstE f (l.drop j) = R) : R = if f l[j] = 0 then firstE f (l.drop (j + 1)) else f l[j] := by
  rw [drop_at h, firstE] at hR; exact hR.symm
theorem firstE_end {β : Type} {f : β → Int} {l : List β} {j : Nat} {R : Int} (h : ¬ j < l.length) (hR : firstE f (l.drop j) = R) : R = 0 := by
  rw [List.drop_of_length_le (by omega), firstE] at hR; exact hR.symm
/-- The error of lists of one kind. -/
def lsGo {α : Type} (name : α → List UInt8) (len : α → Nat) (inner : α → Int) (most : Int) (all : List α) : List α → Nat → Int
  | [], _ => 0
  | x :: r, k => if listE k (idxF (fun y => name y == name x) all 0) (name x) (len x) most = 0 then (if inner x = 0 then lsGo name len inner most all r (k + 1) else inner x) else listE k (idxF (fun y => name y == name x) all 0) (name x) (len x) most
def lsE {α : Type} (name : α → List UInt8) (len : α → Nat) (inner : α → Int) (most : Int) (l : List α) : Int := if 8 < l.length then 7 else lsGo name len inner most l l 0
theorem lsGo_at {α : Type} {name : α → List UInt8} {len : α → Nat} {inner : α → Int} {most : Int} {all : List α} {k : Nat} {R : Int} (h : k < all.length) (hR : lsGo name len inner most all (all.drop k) k = R) :
    R = if listE k (idxF (fun y => name y == name all[k]) all 0) (name all[k]) (len all[k]) most = 0 then (if inner all[k] = 0 then lsGo name len inner most all (all.drop (k + 1)) (k + 1) else inner all[k]) else listE k (idxF (fun y => name y == name all[k]) all 0) (name all[k]) (len all[k]) most := by
  rw [drop_at h, lsGo] at hR; exact hR.symm
theorem lsGo_end {α : Type} {name : α → List UInt8} {len : α → Nat} {inner : α → Int} {most : Int} {all : List α} {k : Nat} {R : Int} (h : ¬ k < all.length) (hR : lsGo name len inner most all (all.drop k) k = R) : R = 0 := by
  rw [List.drop_of_length_le (by omega), lsGo] at hR; exact hR.symm
def rightPR (x : PRule) : Bool := validP x.pa x.pl && !decide (x.min < x.pl) && !decide (x.max < x.min) && !decide (32 < x.max)
def prE (x : PRule) : Int := if rightPR x then 0 else 1
def clE (lists : List PList) (c : Cl) : Int := if !c.list.isEmpty && decide (idxF (fun y => y.name == c.list) lists 0 < 0) then 5 else if rightCl c then 0 else 1
def ruE (x : Ru) : Int := if rightRu x then 0 else 1
def plsE (l : List PList) : Int := lsE (·.name) (·.rules.length) (fun x => firstE prE x.rules) 16 l
def mapsE (lists : List PList) (l : List RMap) : Int := lsE (·.name) (·.clauses.length) (fun x => firstE (clE lists) x.clauses) 8 l
def aclsE (l : List AList) : Int := lsE (·.name) (·.rules.length) (fun x => firstE ruE x.rules) 16 l
theorem inner_fail {res X F G fy : Int} (h1 : res = if F = 0 then X else F) (h2 : F = if fy = 0 then G else fy) (h3 : fy ≠ 0) : res = fy := by rw [h1, h2, if_neg h3, if_neg h3]
theorem inner_next {F G fy : Int} (h2 : F = if fy = 0 then G else fy) (h3 : fy = 0) : G = F := by rw [h2, if_pos h3]
/-- The list at hand in block gx, the router's block. -/
def RL (r : Rt) (T : TypeId) (name : List UInt8) (v : Value) (gx : Nat) (w0 w : World) : Prop := w.cell? ⟨gx, 0, none⟩ = some (.string (str name)) ∧ w.cell? ⟨gx, 1, none⟩ = some v ∧ RB r w0 w ∧ HasC T gx #[.string (str name), v] w
theorem RL.keep {r : Rt} {T : TypeId} {name : List UInt8} {v : Value} {gx : Nat} {w0 w w' : World} (h : RL r T name v gx w0 w) (hb : Below w.heap.size w w') : RL r T name v gx w0 w' := by
  obtain ⟨h1, h2, h3, h4⟩ := h
  exact ⟨(hb.cell (World.block_lt_of_cell? _ _ h1)).trans h1, (hb.cell (World.block_lt_of_cell? _ _ h2)).trans h2, h3.keep hb, h4.keep hb⟩
set_option maxRecDepth 100000 in
set_option maxHeartbeats 8000000 in
theorem checkPrefixLists_any (r : Rt) (w : World) (B : Nat) (h : r.at w B) (hB : B ≤ w.heap.size) (hf : ∀ x ∈ r.lists, x.fit) : Calls Tryz.prog 33 #[.agg r.C] w fun e w' => e = .returned (.int .i64 (plsE r.lists)) ∧ Below w.heap.size w w' := by
  have H0 := Lib.hid (RB.start r w)
  have HR := Lib.hid h
  have HBB := Lib.hid hB
  have HF := Lib.hid hf
  clear hf
  obtain ⟨A, c, hv, hle, -⟩ := h.hlists
  have HL : Hid (∀ w', RB r w w' → w'.cell? ⟨w.heap.size, 3, none⟩ = some (.slice A r.lists.length c)) := Lib.hid (fun w' h => by rw [← hv]; exact h.h.cell 3)
  have HV := Lib.hid hv
  clear h hv hB
  have c2 := HL.out _ H0.out
  obtain ⟨res, hres⟩ : ∃ res, plsE r.lists = res := ⟨_, rfl⟩
  rw [hres]
  by_cases h8 : 8 < r.lists.length
  · have E : Hid (res = 7) := Lib.hid (by rw [← hres]; exact if_pos h8)
    clear hres
    go_enter Tryz.func33, Tryz.ntmps33
    go_wp2_with fail
    go_ret
    exact ⟨ret_int E.out.symm, H0.out.b⟩
  have d8 : decide ((8 : Int) < r.lists.length) = false := by simp; omega
  have E : Hid (lsGo (·.name) (·.rules.length) (fun (x : PList) => firstE prE x.rules) 16 r.lists r.lists 0 = res) := Lib.hid (by rw [← hres]; exact (if_neg h8).symm)
  clear hres
  go_enter Tryz.func33, Tryz.ntmps33
  go_wp2_with fail
  clear c2 d8
  go_loopg [15] r.lists.length (fun gh ix wr => ∃ k : Nat, k + gh = r.lists.length ∧ ix = .int .i64 k ∧ Hid (RB r w wr) ∧ Hid (lsGo (·.name) (·.rules.length) (fun (x : PList) => firstE prE x.rules) 16 r.lists (r.lists.drop k) k = res))
  case atStart => exact ⟨0, by omega, rfl, H0, E⟩
  case round =>
    obtain ⟨k, hk, rfl, HW, HG⟩ := hrel
    clear H0 E
    by_cases hlt : k < r.lists.length
    case neg =>
      have E := Lib.hid (lsGo_end hlt HG.out)
      go_wp2_with fail
      go_ret
      exact ⟨ret_int E.out.symm, HW.out.b⟩
    have HAT := Lib.hid (lsGo_at hlt HG.out)
    obtain ⟨g, o, c', e', -, hg, R0⟩ := (HR.out.hlists).elem (n := 2) (by decide) (fun _ => rfl) hlt
    rw [HV.out] at e'
    injection e' with e1 e2 e3
    subst e1 e3
    have R1 := Lib.hid (rangeBelow R0 (HW.out.b.mono HBB.out) hg)
    have HN := Lib.hid (HR.out.nlists _ (List.getElem_mem hlt))
    have FX := Lib.hid (HF.out _ (List.getElem_mem hlt))
    clear R0 HG e2
    generalize r.lists[k] = x at HAT R1 HN FX
    obtain ⟨xn, xv, xs⟩ := x
    dsimp only at HAT HN FX
    obtain ⟨A2, c2, hv2, hle2, -⟩ := HN.out
    dsimp only at hv2 hle2
    subst hv2
    have k0 : wr.cell? ⟨g, o + k * 2, none⟩ = some (.string (str xn)) := R1.out 0 (.string (str xn)) rfl
    have k1 : wr.cell? ⟨g, o + k * 2 + 1, none⟩ = some (.slice A2 xs.length c2) := R1.out 1 _ rfl
    have S0 : RL r 120 xn (.slice A2 xs.length c2) wr.heap.size w (wr.alloc (.cells #[.string (str xn), .slice A2 xs.length c2] 120)).drew := by
      have hn := HasC.new wr 120 #[.string (str xn), .slice A2 xs.length c2]
      have hn2 := hn.keep (belowDrew _)
      exact ⟨hn2.cell 0, hn2.cell 1, (HW.out.keep ((Below.refl _ _).alloc (Nat.le_refl _) _)).keep (belowDrew _), hn2⟩
    have HS0 := Lib.hid S0
    clear S0 R1
    have PL := Lib.hid (fun w1 (hw1 : RB r w w1) => prefixList_any r xn w1 B (HR.out.below (hw1.b.mono HBB.out)) (Nat.le_trans HBB.out hw1.b.size))
    have PC := Lib.hid (fun w1 => checkList_any (k : Int) (idxF (fun y => y.name == xn) r.lists 0) xn (xs.length : Int) 16 w1)
    go_wp2_with fail
    clear k0 k1
    generalize hwz : wr.alloc (.cells #[.string (str xn), .slice A2 xs.length c2] 120) = wz at HS0 ⊢
    clear hwz HW
    generalize wr.heap.size = gx at HS0 ⊢
    refine wp_region_held_drew (S := fun w' => RL r 120 xn (.slice A2 xs.length c2) gx w w') (by kernel_rfl) (HS0.out) (fun hHeld => ?_)
    refine wpAnyH_take (i := 0) (oi := { dst := some 20, op := Op.move (Operand.tmp 3), type := 3, pos := "model.go:131", after := #[], guard := none }) (v := ?_) rfl (by kernel_rfl) (by kernel_rfl) (by kernel_rfl) (fun _ _ _ h => h) (Or.inl ⟨by rfl, ?_⟩) (by assumption) ?_
    rotate_left
    · (intro w hSw; (try dsimp only at hSw); (try unfold RL at hSw); go_simp; try with_reducible rfl)
    try simp only [Act.put, List.setIfInBounds_toArray, List.set_cons_zero, List.set_cons_succ]
    refine wpAnyH_take (i := 1) (oi := { dst := some 21, op := Op.load 69 (Operand.tmp 1), type := 69, pos := "model.go:131", after := #[], guard := none }) (v := .agg r.C) rfl (by kernel_rfl) (by kernel_rfl) (by kernel_rfl) (fun _ _ _ h => h) (yieldsRow (by rfl) 69 _ rfl rfl (fun _ h => h.2.2.1.h.range) Tryz.rowRt Tryz.sizeRt) (by assumption) ?_
    try simp only [Act.put, List.setIfInBounds_toArray, List.set_cons_zero, List.set_cons_succ]
    refine wpAnyH_take (i := 2) (oi := { dst := some 22, op := Op.fieldAddr 120 (Operand.tmp 4) 0, type := 0, pos := "model.go:131", after := #[], guard := none }) (v := ?_) rfl (by kernel_rfl) (by kernel_rfl) (by kernel_rfl) (fun _ _ _ h => h) (Or.inl ⟨by rfl, ?_⟩) (by assumption) ?_
    rotate_left
    · (intro w hSw; (try dsimp only at hSw); (try unfold RL at hSw); go_simp; try with_reducible rfl)
    try simp only [Act.put, List.setIfInBounds_toArray, List.set_cons_zero, List.set_cons_succ]
    refine wpAnyH_take (i := 3) (oi := { dst := some 23, op := Op.load 9 (Operand.tmp 22), type := 9, pos := "model.go:131", after := #[{ on := 2, ground := Ground.data }], guard := none }) (v := ?_) rfl (by kernel_rfl) (by kernel_rfl) (by kernel_rfl) (fun _ _ _ h => h) (Or.inl ⟨by rfl, ?_⟩) (by assumption) ?_
    rotate_left
    · (intro w hSw; (try dsimp only at hSw); (try unfold RL at hSw); go_simp; try with_reducible rfl)
    try simp only [Act.put, List.setIfInBounds_toArray, List.set_cons_zero, List.set_cons_succ]
    refine wpAnyH_take (i := 5) (oi := { dst := some 25, op := Op.fieldAddr 120 (Operand.tmp 4) 0, type := 0, pos := "model.go:131", after := #[], guard := none }) (v := ?_) rfl (by kernel_rfl) (by kernel_rfl) (by kernel_rfl) (fun _ _ _ h => h) (Or.inl ⟨by rfl, ?_⟩) (by assumption) ?_
    rotate_left
    · (intro w hSw; (try dsimp only at hSw); (try unfold RL at hSw); go_simp; try with_reducible rfl)
    try simp only [Act.put, List.setIfInBounds_toArray, List.set_cons_zero, List.set_cons_succ]
    refine wpAnyH_take (i := 6) (oi := { dst := some 26, op := Op.load 9 (Operand.tmp 25), type := 9, pos := "model.go:131", after := #[{ on := 5, ground := Ground.data }], guard := none }) (v := ?_) rfl (by kernel_rfl) (by kernel_rfl) (by kernel_rfl) (fun _ _ _ h => h) (Or.inl ⟨by rfl, ?_⟩) (by assumption) ?_
    rotate_left
    · (intro w hSw; (try dsimp only at hSw); (try unfold RL at hSw); go_simp; try with_reducible rfl)
    try simp only [Act.put, List.setIfInBounds_toArray, List.set_cons_zero, List.set_cons_succ]
    refine wpAnyH_take (i := 7) (oi := { dst := some 27, op := Op.fieldAddr 120 (Operand.tmp 4) 1, type := 0, pos := "model.go:131", after := #[], guard := none }) (v := ?_) rfl (by kernel_rfl) (by kernel_rfl) (by kernel_rfl) (fun _ _ _ h => h) (Or.inl ⟨by rfl, ?_⟩) (by assumption) ?_
    rotate_left
    · (intro w hSw; (try dsimp only at hSw); (try unfold RL at hSw); go_simp; try with_reducible rfl)
    try simp only [Act.put, List.setIfInBounds_toArray, List.set_cons_zero, List.set_cons_succ]
    refine wpAnyH_take (i := 8) (oi := { dst := some 28, op := Op.load 118 (Operand.tmp 27), type := 118, pos := "model.go:131", after := #[{ on := 7, ground := Ground.data }], guard := none }) (v := ?_) rfl (by kernel_rfl) (by kernel_rfl) (by kernel_rfl) (fun _ _ _ h => h) (Or.inl ⟨by rfl, ?_⟩) (by assumption) ?_
    rotate_left
    · (intro w hSw; (try dsimp only at hSw); (try unfold RL at hSw); go_simp; try with_reducible rfl)
    try simp only [Act.put, List.setIfInBounds_toArray, List.set_cons_zero, List.set_cons_succ]
    refine wpAnyH_take (i := 9) (oi := { dst := some 29, op := Op.call { callee := Callee.builtin Builtin.len, args := #[Operand.tmp 28], argTypes := #[118] }, type := 3, pos := "model.go:131", after := #[{ on := 8, ground := Ground.data }], guard := none }) (v := ?_) rfl (by kernel_rfl) (by kernel_rfl) (by kernel_rfl) (fun _ _ _ h => h) (Or.inl ⟨by rfl, ?_⟩) (by assumption) ?_
    rotate_left
    · (intro w hSw; (try dsimp only at hSw); (try unfold RL at hSw); go_simp; try with_reducible rfl)
    try simp only [Act.put, List.setIfInBounds_toArray, List.set_cons_zero, List.set_cons_succ]
    refine wpAnyH_ready (rs := [4]) (by kernel_rfl) (by simp) ?_
    refine AllReadyH.cons (o := { dst := some 24, op := Op.call { callee := Callee.value (Operand.func 73), args := #[Operand.tmp 21, Operand.tmp 23], argTypes := #[69, 9] }, type := 3, pos := "model.go:131", after := #[{ on := 1, ground := Ground.data }, { on := 3, ground := Ground.data }], guard := none }) rfl (fun K hK => ?_) AllReadyH.nil
    go_simp
    refine (PL.out _ hHeld.2.2.1).mono ?_
    rintro e wa ⟨rfl, hb⟩
    refine hK.out _ _ (RL.keep hHeld hb) (fun hHeld => ?_)
    clear hK K
    try simp only [Act.put, List.setIfInBounds_toArray, List.set_cons_zero, List.set_cons_succ]
    refine wpAnyH_ready (rs := [10]) (by kernel_rfl) (by simp) ?_
    refine AllReadyH.cons (o := { dst := some 30, op := Op.call { callee := Callee.value (Operand.func 72), args := #[Operand.tmp 20, Operand.tmp 24, Operand.tmp 26, Operand.tmp 29, Operand.const (Value.int IntKind.i64 16)], argTypes := #[3, 3, 9, 3, 3] }, type := 36, pos := "model.go:131", after := #[{ on := 0, ground := Ground.data }, { on := 4, ground := Ground.data }, { on := 6, ground := Ground.data }, { on := 9, ground := Ground.data }, { on := 4, ground := Ground.chain }], guard := none }) rfl (fun K hK => ?_) AllReadyH.nil
    go_simp
    refine (PC.out _).mono ?_
    rintro e wb ⟨rfl, rfl⟩
    refine hK.out _ _ hHeld (fun hHeld => ?_)
    clear hK K
    try simp only [Act.put, List.setIfInBounds_toArray, List.set_cons_zero, List.set_cons_succ]
    refine wpAnyH_take (i := 11) (oi := { dst := some 5, op := Op.assign (Operand.tmp 30), type := 36, pos := "model.go:131", after := #[{ on := 10, ground := Ground.data }, { on := 10, ground := Ground.chain }, { on := 0, ground := Ground.phase }, { on := 1, ground := Ground.phase }, { on := 2, ground := Ground.phase }, { on := 3, ground := Ground.phase }, { on := 4, ground := Ground.phase }, { on := 5, ground := Ground.phase }, { on := 6, ground := Ground.phase }, { on := 7, ground := Ground.phase }, { on := 8, ground := Ground.phase }, { on := 9, ground := Ground.phase }, { on := 10, ground := Ground.phase }], guard := none }) (v := ?_) rfl (by kernel_rfl) (by kernel_rfl) (by kernel_rfl) (fun _ _ _ h => h) (Or.inl ⟨by rfl, ?_⟩) (by assumption) ?_
    rotate_left
    · (intro w hSw; (try dsimp only at hSw); (try unfold RL at hSw); go_simp; try with_reducible rfl)
    try simp only [Act.put, List.setIfInBounds_toArray, List.set_cons_zero, List.set_cons_succ]
    refine wpAnyH_done (by kernel_rfl) ?_ _
    clear PL PC HS0
    rename_i wb _
    have H3 := Lib.hid hHeld
    clear hHeld
    by_cases he : listE (k : Int) (idxF (fun y => y.name == xn) r.lists 0) xn (xs.length : Int) 16 = 0
    case neg =>
      have E : Hid (res = listE (k : Int) (idxF (fun y => y.name == xn) r.lists 0) xn (xs.length : Int) 16) := Lib.hid (by rw [HAT.out, if_neg he])
      generalize listE (k : Int) (idxF (fun y => y.name == xn) r.lists 0) xn (xs.length : Int) 16 = le at *
      have dn : (le != 0) = true := by simpa using he
      clear HAT
      go_wp2_with fail
      go_ret
      exact ⟨ret_int E.out.symm, H3.out.2.2.1.b⟩
    have HAN : Hid (res = if firstE prE xs = 0 then lsGo (·.name) (·.rules.length) (fun (x : PList) => firstE prE x.rules) 16 r.lists (r.lists.drop (k + 1)) (k + 1) else firstE prE xs) := Lib.hid (by rw [HAT.out, if_pos he])
    rw [he]
    clear he HAT
    have c1 := H3.out.2.1
    have hlen : xs.length ≤ 9223372036854775807 := by have := HN.out.len; simp only [maxLen] at this; exact Nat.le_trans this (by omega)
    go_wp2_with fail
    clear c1
    go_loopg [37] xs.length (fun gh ix wq => ∃ j : Nat, j + gh = xs.length ∧ ix = .int .i64 j ∧ Hid (RB r w wq) ∧ Hid (firstE prE (xs.drop j) = firstE prE xs))
    case atStart => exact ⟨0, by omega, rfl, Lib.hid H3.out.2.2.1, Lib.hid rfl⟩
    case round =>
      obtain ⟨j, hj, rfl, HQ, HAY⟩ := hrel
      by_cases hjl : j < xs.length
      case neg =>
        have E0 := firstE_end hjl HAY.out
        have E : Hid (lsGo (·.name) (·.rules.length) (fun (x : PList) => firstE prE x.rules) 16 r.lists (r.lists.drop (k + 1)) (k + 1) = res) := Lib.hid (by rw [HAN.out, if_pos E0])
        clear E0
        go_wp2_with fail
        go_roundg (r.lists.length - (k + 1))
        case measure => omega
        case rel => exact ⟨k + 1, by omega, by go_num, HQ, E⟩
      have HYT := Lib.hid (firstE_at hjl HAY.out)
      obtain ⟨g', o', c'', e', -, hg', R0⟩ := HN.out.elem (n := 5) (by decide) (fun _ => rfl) hjl
      dsimp only at e'
      injection e' with e1 e2 e3
      subst e1 e3
      have r1 := Lib.hid (rangeBelow R0 (HQ.out.b.mono HBB.out) hg')
      have FY := Lib.hid (FX.out _ (List.getElem_mem hjl))
      clear R0 e2
      generalize xs[j] = y at HYT r1 FY
      go_wp2_with (first | (refine wpList_loadRow rfl 123 _ rfl rfl r1.out Tryz.rowPRule Tryz.sizePRule ?_) | (refine wpList_storeRow rfl 123 _ _ rfl rfl rfl (HasC.new wr _ _) rfl Tryz.sizePRule (PRule.one y) ?_; intro w5 hz1 hz2; have y1 : w5.cell? ⟨wr.heap.size, 1, none⟩ = some (.int .u32 (y.pa : Int)) := hz1.cell 1; have y2 : w5.cell? ⟨wr.heap.size, 2, none⟩ = some (.int .i64 y.pl) := hz1.cell 2))
      have H5 := Lib.hid (HQ.out.keep (new_below hz2))
      have Y5 := hz1
      clear hz1 hz2 r1 HQ y1 y2
      generalize wr.heap.size = gy at Y5 ⊢
      replace Y5 := Lib.hid Y5
      refine (valid_any y.pa y.pl _ FY.out).mono ?_
      rintro e w6 ⟨rfl, hb⟩
      have H6 := Lib.hid (H5.out.keep hb)
      have Y6 := Lib.hid (Y5.out.keep hb)
      clear hb H5 Y5
      have PE : Hid (prE y = if rightPR y then 0 else 1) := Lib.hid rfl
      have PD : Hid (rightPR y = (validP y.pa y.pl && !decide (y.min < y.pl) && !decide (y.max < y.min) && !decide (32 < y.max))) := Lib.hid rfl
      have y2 : w6.cell? ⟨gy, 2, none⟩ = some (.int .i64 y.pl) := Y6.out.cell 2
      have y3 : w6.cell? ⟨gy, 3, none⟩ = some (.int .i64 y.min) := Y6.out.cell 3
      have y4 : w6.cell? ⟨gy, 4, none⟩ = some (.int .i64 y.max) := Y6.out.cell 4
      cases hv : validP y.pa y.pl with
      | false =>
        have F1 : Hid (prE y = 1) := Lib.hid (by rw [PE.out, PD.out, hv]; rfl)
        have E : Hid (res = 1) := Lib.hid (inner_fail HAN.out HYT.out (by rw [F1.out]; decide) |>.trans (F1.out))
        go_wp2_with fail
        go_ret
        exact ⟨ret_int E.out.symm, H6.out.b⟩
      | true =>
      by_cases h1 : y.min < y.pl
      · have F1 : Hid (prE y = 1) := Lib.hid (by rw [PE.out, PD.out, decide_eq_true h1]; simp)
        have d1 := decide_eq_true h1
        have E : Hid (res = 1) := Lib.hid (inner_fail HAN.out HYT.out (by rw [F1.out]; decide) |>.trans (F1.out))
        go_wp2_with fail
        go_ret
        exact ⟨ret_int E.out.symm, H6.out.b⟩
      have d1 := decide_eq_false h1
      by_cases h2 : y.max < y.min
      · have F1 : Hid (prE y = 1) := Lib.hid (by rw [PE.out, PD.out, decide_eq_true h2]; simp)
        have d2 := decide_eq_true h2
        have E : Hid (res = 1) := Lib.hid (inner_fail HAN.out HYT.out (by rw [F1.out]; decide) |>.trans (F1.out))
        go_wp2_with fail
        go_ret
        exact ⟨ret_int E.out.symm, H6.out.b⟩
      have d2 := decide_eq_false h2
      by_cases h3 : 32 < y.max
      · have F1 : Hid (prE y = 1) := Lib.hid (by rw [PE.out, PD.out, decide_eq_true h3]; simp)
        have d3 := decide_eq_true h3
        have E : Hid (res = 1) := Lib.hid (inner_fail HAN.out HYT.out (by rw [F1.out]; decide) |>.trans (F1.out))
        go_wp2_with fail
        go_ret
        exact ⟨ret_int E.out.symm, H6.out.b⟩
      have d3 := decide_eq_false h3
      have F0 : Hid (prE y = 0) := Lib.hid (by rw [PE.out, PD.out, hv, d1, d2, d3]; rfl)
      have E : Hid (firstE prE (xs.drop (j + 1)) = firstE prE xs) := Lib.hid (inner_next HYT.out (F0.out))
      go_wp2_with fail
      go_roundg (xs.length - (j + 1))
      case measure => omega
      case rel => exact ⟨j + 1, by omega, by go_num, H6, E⟩
set_option maxRecDepth 100000 in
set_option maxHeartbeats 8000000 in
theorem checkACLs_any (r : Rt) (w : World) (B : Nat) (h : r.at w B) (hB : B ≤ w.heap.size) (hf : ∀ x ∈ r.acls, x.fit) : Calls Tryz.prog 35 #[.agg r.C] w fun e w' => e = .returned (.int .i64 (aclsE r.acls)) ∧ Below w.heap.size w w' := by
  have H0 := Lib.hid (RB.start r w)
  have HR := Lib.hid h
  have HBB := Lib.hid hB
  have HF := Lib.hid hf
  clear hf
  obtain ⟨A, c, hv, hle, -⟩ := h.hacls
  have HL : Hid (∀ w', RB r w w' → w'.cell? ⟨w.heap.size, 5, none⟩ = some (.slice A r.acls.length c)) := Lib.hid (fun w' h => by rw [← hv]; exact h.h.cell 5)
  have HV := Lib.hid hv
  clear h hv hB
  have c2 := HL.out _ H0.out
  obtain ⟨res, hres⟩ : ∃ res, aclsE r.acls = res := ⟨_, rfl⟩
  rw [hres]
  by_cases h8 : 8 < r.acls.length
  · have E : Hid (res = 7) := Lib.hid (by rw [← hres]; exact if_pos h8)
    clear hres
    go_enter Tryz.func35, Tryz.ntmps35
    go_wp2_with fail
    go_ret
    exact ⟨ret_int E.out.symm, H0.out.b⟩
  have d8 : decide ((8 : Int) < r.acls.length) = false := by simp; omega
  have E : Hid (lsGo (·.name) (·.rules.length) (fun (x : AList) => firstE ruE x.rules) 16 r.acls r.acls 0 = res) := Lib.hid (by rw [← hres]; exact (if_neg h8).symm)
  clear hres
  go_enter Tryz.func35, Tryz.ntmps35
  go_wp2_with fail
  clear c2 d8
  go_loopg [15] r.acls.length (fun gh ix wr => ∃ k : Nat, k + gh = r.acls.length ∧ ix = .int .i64 k ∧ Hid (RB r w wr) ∧ Hid (lsGo (·.name) (·.rules.length) (fun (x : AList) => firstE ruE x.rules) 16 r.acls (r.acls.drop k) k = res))
  case atStart => exact ⟨0, by omega, rfl, H0, E⟩
  case round =>
    obtain ⟨k, hk, rfl, HW, HG⟩ := hrel
    clear H0 E
    by_cases hlt : k < r.acls.length
    case neg =>
      have E := Lib.hid (lsGo_end hlt HG.out)
      go_wp2_with fail
      go_ret
      exact ⟨ret_int E.out.symm, HW.out.b⟩
    have HAT := Lib.hid (lsGo_at hlt HG.out)
    obtain ⟨g, o, c', e', -, hg, R0⟩ := (HR.out.hacls).elem (n := 2) (by decide) (fun _ => rfl) hlt
    rw [HV.out] at e'
    injection e' with e1 e2 e3
    subst e1 e3
    have R1 := Lib.hid (rangeBelow R0 (HW.out.b.mono HBB.out) hg)
    have HN := Lib.hid (HR.out.nacls _ (List.getElem_mem hlt))
    have FX := Lib.hid (HF.out _ (List.getElem_mem hlt))
    clear R0 HG e2
    generalize r.acls[k] = x at HAT R1 HN FX
    obtain ⟨xn, xv, xs⟩ := x
    dsimp only at HAT HN FX
    obtain ⟨A2, c2, hv2, hle2, -⟩ := HN.out
    dsimp only at hv2 hle2
    subst hv2
    have k0 : wr.cell? ⟨g, o + k * 2, none⟩ = some (.string (str xn)) := R1.out 0 (.string (str xn)) rfl
    have k1 : wr.cell? ⟨g, o + k * 2 + 1, none⟩ = some (.slice A2 xs.length c2) := R1.out 1 _ rfl
    have S0 : RL r 132 xn (.slice A2 xs.length c2) wr.heap.size w (wr.alloc (.cells #[.string (str xn), .slice A2 xs.length c2] 132)).drew := by
      have hn := HasC.new wr 132 #[.string (str xn), .slice A2 xs.length c2]
      have hn2 := hn.keep (belowDrew _)
      exact ⟨hn2.cell 0, hn2.cell 1, (HW.out.keep ((Below.refl _ _).alloc (Nat.le_refl _) _)).keep (belowDrew _), hn2⟩
    have HS0 := Lib.hid S0
    clear S0 R1
    have PL := Lib.hid (fun w1 (hw1 : RB r w w1) => aCL_any r xn w1 B (HR.out.below (hw1.b.mono HBB.out)) (Nat.le_trans HBB.out hw1.b.size))
    have PC := Lib.hid (fun w1 => checkList_any (k : Int) (idxF (fun y => y.name == xn) r.acls 0) xn (xs.length : Int) 16 w1)
    go_wp2_with fail
    clear k0 k1
    generalize hwz : wr.alloc (.cells #[.string (str xn), .slice A2 xs.length c2] 132) = wz at HS0 ⊢
    clear hwz HW
    generalize wr.heap.size = gx at HS0 ⊢
    refine wp_region_held_drew (S := fun w' => RL r 132 xn (.slice A2 xs.length c2) gx w w') (by kernel_rfl) (HS0.out) (fun hHeld => ?_)
    refine wpAnyH_take (i := 0) (oi := { dst := some 20, op := Op.move (Operand.tmp 3), type := 3, pos := "model.go:177", after := #[], guard := none }) (v := ?_) rfl (by kernel_rfl) (by kernel_rfl) (by kernel_rfl) (fun _ _ _ h => h) (Or.inl ⟨by rfl, ?_⟩) (by assumption) ?_
    rotate_left
    · (intro w hSw; (try dsimp only at hSw); (try unfold RL at hSw); go_simp; try with_reducible rfl)
    try simp only [Act.put, List.setIfInBounds_toArray, List.set_cons_zero, List.set_cons_succ]
    refine wpAnyH_take (i := 1) (oi := { dst := some 21, op := Op.load 69 (Operand.tmp 1), type := 69, pos := "model.go:177", after := #[], guard := none }) (v := .agg r.C) rfl (by kernel_rfl) (by kernel_rfl) (by kernel_rfl) (fun _ _ _ h => h) (yieldsRow (by rfl) 69 _ rfl rfl (fun _ h => h.2.2.1.h.range) Tryz.rowRt Tryz.sizeRt) (by assumption) ?_
    try simp only [Act.put, List.setIfInBounds_toArray, List.set_cons_zero, List.set_cons_succ]
    refine wpAnyH_take (i := 2) (oi := { dst := some 22, op := Op.fieldAddr 132 (Operand.tmp 4) 0, type := 0, pos := "model.go:177", after := #[], guard := none }) (v := ?_) rfl (by kernel_rfl) (by kernel_rfl) (by kernel_rfl) (fun _ _ _ h => h) (Or.inl ⟨by rfl, ?_⟩) (by assumption) ?_
    rotate_left
    · (intro w hSw; (try dsimp only at hSw); (try unfold RL at hSw); go_simp; try with_reducible rfl)
    try simp only [Act.put, List.setIfInBounds_toArray, List.set_cons_zero, List.set_cons_succ]
    refine wpAnyH_take (i := 3) (oi := { dst := some 23, op := Op.load 9 (Operand.tmp 22), type := 9, pos := "model.go:177", after := #[{ on := 2, ground := Ground.data }], guard := none }) (v := ?_) rfl (by kernel_rfl) (by kernel_rfl) (by kernel_rfl) (fun _ _ _ h => h) (Or.inl ⟨by rfl, ?_⟩) (by assumption) ?_
    rotate_left
    · (intro w hSw; (try dsimp only at hSw); (try unfold RL at hSw); go_simp; try with_reducible rfl)
    try simp only [Act.put, List.setIfInBounds_toArray, List.set_cons_zero, List.set_cons_succ]
    refine wpAnyH_take (i := 5) (oi := { dst := some 25, op := Op.fieldAddr 132 (Operand.tmp 4) 0, type := 0, pos := "model.go:177", after := #[], guard := none }) (v := ?_) rfl (by kernel_rfl) (by kernel_rfl) (by kernel_rfl) (fun _ _ _ h => h) (Or.inl ⟨by rfl, ?_⟩) (by assumption) ?_
    rotate_left
    · (intro w hSw; (try dsimp only at hSw); (try unfold RL at hSw); go_simp; try with_reducible rfl)
    try simp only [Act.put, List.setIfInBounds_toArray, List.set_cons_zero, List.set_cons_succ]
    refine wpAnyH_take (i := 6) (oi := { dst := some 26, op := Op.load 9 (Operand.tmp 25), type := 9, pos := "model.go:177", after := #[{ on := 5, ground := Ground.data }], guard := none }) (v := ?_) rfl (by kernel_rfl) (by kernel_rfl) (by kernel_rfl) (fun _ _ _ h => h) (Or.inl ⟨by rfl, ?_⟩) (by assumption) ?_
    rotate_left
    · (intro w hSw; (try dsimp only at hSw); (try unfold RL at hSw); go_simp; try with_reducible rfl)
    try simp only [Act.put, List.setIfInBounds_toArray, List.set_cons_zero, List.set_cons_succ]
    refine wpAnyH_take (i := 7) (oi := { dst := some 27, op := Op.fieldAddr 132 (Operand.tmp 4) 1, type := 0, pos := "model.go:177", after := #[], guard := none }) (v := ?_) rfl (by kernel_rfl) (by kernel_rfl) (by kernel_rfl) (fun _ _ _ h => h) (Or.inl ⟨by rfl, ?_⟩) (by assumption) ?_
    rotate_left
    · (intro w hSw; (try dsimp only at hSw); (try unfold RL at hSw); go_simp; try with_reducible rfl)
    try simp only [Act.put, List.setIfInBounds_toArray, List.set_cons_zero, List.set_cons_succ]
    refine wpAnyH_take (i := 8) (oi := { dst := some 28, op := Op.load 130 (Operand.tmp 27), type := 130, pos := "model.go:177", after := #[{ on := 7, ground := Ground.data }], guard := none }) (v := ?_) rfl (by kernel_rfl) (by kernel_rfl) (by kernel_rfl) (fun _ _ _ h => h) (Or.inl ⟨by rfl, ?_⟩) (by assumption) ?_
    rotate_left
    · (intro w hSw; (try dsimp only at hSw); (try unfold RL at hSw); go_simp; try with_reducible rfl)
    try simp only [Act.put, List.setIfInBounds_toArray, List.set_cons_zero, List.set_cons_succ]
    refine wpAnyH_take (i := 9) (oi := { dst := some 29, op := Op.call { callee := Callee.builtin Builtin.len, args := #[Operand.tmp 28], argTypes := #[130] }, type := 3, pos := "model.go:177", after := #[{ on := 8, ground := Ground.data }], guard := none }) (v := ?_) rfl (by kernel_rfl) (by kernel_rfl) (by kernel_rfl) (fun _ _ _ h => h) (Or.inl ⟨by rfl, ?_⟩) (by assumption) ?_
    rotate_left
    · (intro w hSw; (try dsimp only at hSw); (try unfold RL at hSw); go_simp; try with_reducible rfl)
    try simp only [Act.put, List.setIfInBounds_toArray, List.set_cons_zero, List.set_cons_succ]
    refine wpAnyH_ready (rs := [4]) (by kernel_rfl) (by simp) ?_
    refine AllReadyH.cons (o := { dst := some 24, op := Op.call { callee := Callee.value (Operand.func 76), args := #[Operand.tmp 21, Operand.tmp 23], argTypes := #[69, 9] }, type := 3, pos := "model.go:177", after := #[{ on := 1, ground := Ground.data }, { on := 3, ground := Ground.data }], guard := none }) rfl (fun K hK => ?_) AllReadyH.nil
    go_simp
    refine (PL.out _ hHeld.2.2.1).mono ?_
    rintro e wa ⟨rfl, hb⟩
    refine hK.out _ _ (RL.keep hHeld hb) (fun hHeld => ?_)
    clear hK K
    try simp only [Act.put, List.setIfInBounds_toArray, List.set_cons_zero, List.set_cons_succ]
    refine wpAnyH_ready (rs := [10]) (by kernel_rfl) (by simp) ?_
    refine AllReadyH.cons (o := { dst := some 30, op := Op.call { callee := Callee.value (Operand.func 72), args := #[Operand.tmp 20, Operand.tmp 24, Operand.tmp 26, Operand.tmp 29, Operand.const (Value.int IntKind.i64 16)], argTypes := #[3, 3, 9, 3, 3] }, type := 36, pos := "model.go:177", after := #[{ on := 0, ground := Ground.data }, { on := 4, ground := Ground.data }, { on := 6, ground := Ground.data }, { on := 9, ground := Ground.data }, { on := 4, ground := Ground.chain }], guard := none }) rfl (fun K hK => ?_) AllReadyH.nil
    go_simp
    refine (PC.out _).mono ?_
    rintro e wb ⟨rfl, rfl⟩
    refine hK.out _ _ hHeld (fun hHeld => ?_)
    clear hK K
    try simp only [Act.put, List.setIfInBounds_toArray, List.set_cons_zero, List.set_cons_succ]
    refine wpAnyH_take (i := 11) (oi := { dst := some 5, op := Op.assign (Operand.tmp 30), type := 36, pos := "model.go:177", after := #[{ on := 10, ground := Ground.data }, { on := 10, ground := Ground.chain }, { on := 0, ground := Ground.phase }, { on := 1, ground := Ground.phase }, { on := 2, ground := Ground.phase }, { on := 3, ground := Ground.phase }, { on := 4, ground := Ground.phase }, { on := 5, ground := Ground.phase }, { on := 6, ground := Ground.phase }, { on := 7, ground := Ground.phase }, { on := 8, ground := Ground.phase }, { on := 9, ground := Ground.phase }, { on := 10, ground := Ground.phase }], guard := none }) (v := ?_) rfl (by kernel_rfl) (by kernel_rfl) (by kernel_rfl) (fun _ _ _ h => h) (Or.inl ⟨by rfl, ?_⟩) (by assumption) ?_
    rotate_left
    · (intro w hSw; (try dsimp only at hSw); (try unfold RL at hSw); go_simp; try with_reducible rfl)
    try simp only [Act.put, List.setIfInBounds_toArray, List.set_cons_zero, List.set_cons_succ]
    refine wpAnyH_done (by kernel_rfl) ?_ _
    clear PL PC HS0
    rename_i wb _
    have H3 := Lib.hid hHeld
    clear hHeld
    by_cases he : listE (k : Int) (idxF (fun y => y.name == xn) r.acls 0) xn (xs.length : Int) 16 = 0
    case neg =>
      have E : Hid (res = listE (k : Int) (idxF (fun y => y.name == xn) r.acls 0) xn (xs.length : Int) 16) := Lib.hid (by rw [HAT.out, if_neg he])
      generalize listE (k : Int) (idxF (fun y => y.name == xn) r.acls 0) xn (xs.length : Int) 16 = le at *
      have dn : (le != 0) = true := by simpa using he
      clear HAT
      go_wp2_with fail
      go_ret
      exact ⟨ret_int E.out.symm, H3.out.2.2.1.b⟩
    have HAN : Hid (res = if firstE ruE xs = 0 then lsGo (·.name) (·.rules.length) (fun (x : AList) => firstE ruE x.rules) 16 r.acls (r.acls.drop (k + 1)) (k + 1) else firstE ruE xs) := Lib.hid (by rw [HAT.out, if_pos he])
    rw [he]
    clear he HAT
    have c1 := H3.out.2.1
    have hlen : xs.length ≤ 9223372036854775807 := by have := HN.out.len; simp only [maxLen] at this; exact Nat.le_trans this (by omega)
    go_wp2_with fail
    clear c1
    go_loopg [37] xs.length (fun gh ix wq => ∃ j : Nat, j + gh = xs.length ∧ ix = .int .i64 j ∧ Hid (RB r w wq) ∧ Hid (firstE ruE (xs.drop j) = firstE ruE xs))
    case atStart => exact ⟨0, by omega, rfl, Lib.hid H3.out.2.2.1, Lib.hid rfl⟩
    case round =>
      obtain ⟨j, hj, rfl, HQ, HAY⟩ := hrel
      by_cases hjl : j < xs.length
      case neg =>
        have E0 := firstE_end hjl HAY.out
        have E : Hid (lsGo (·.name) (·.rules.length) (fun (x : AList) => firstE ruE x.rules) 16 r.acls (r.acls.drop (k + 1)) (k + 1) = res) := Lib.hid (by rw [HAN.out, if_pos E0])
        clear E0
        go_wp2_with fail
        go_roundg (r.acls.length - (k + 1))
        case measure => omega
        case rel => exact ⟨k + 1, by omega, by go_num, HQ, E⟩
      have HYT := Lib.hid (firstE_at hjl HAY.out)
      obtain ⟨g', o', c'', e', -, hg', R0⟩ := HN.out.elem (n := 10) (by decide) (fun _ => rfl) hjl
      dsimp only at e'
      injection e' with e1 e2 e3
      subst e1 e3
      have r1 := Lib.hid (rangeBelow R0 (HQ.out.b.mono HBB.out) hg')
      have FY := Lib.hid (FX.out _ (List.getElem_mem hjl))
      clear R0 e2
      generalize xs[j] = y at HYT r1 FY
      go_wp2_with (first | (refine wpList_loadRow rfl 136 _ rfl rfl r1.out Tryz.rowRu Tryz.sizeRu ?_) | (refine wpList_storeRow rfl 136 _ _ rfl rfl rfl (HasC.new wr _ _) rfl Tryz.sizeRu (Ru.one y) ?_; intro w5 hz1 hz2) | (refine wpList_loadRow rfl 136 _ rfl rfl hz1.range Tryz.rowRu Tryz.sizeRu ?_))
      have H5 := Lib.hid (HQ.out.keep (new_below hz2))
      clear hz1 hz2 r1 HQ
      refine (rightRule_any y FY.out _).mono ?_
      rintro e w6 ⟨rfl, hb⟩
      have H6 := Lib.hid (H5.out.keep hb)
      clear hb H5
      have PE : Hid (ruE y = if rightRu y then 0 else 1) := Lib.hid rfl
      cases hv : rightRu y with
      | false =>
        have F1 : Hid (ruE y = 1) := Lib.hid (by rw [PE.out, hv]; rfl)
        have E : Hid (res = 1) := Lib.hid (inner_fail HAN.out HYT.out (by rw [F1.out]; decide) |>.trans (F1.out))
        go_wp2_with fail
        go_ret
        exact ⟨ret_int E.out.symm, H6.out.b⟩
      | true =>
        have F0 : Hid (ruE y = 0) := Lib.hid (by rw [PE.out, hv]; rfl)
        have E : Hid (firstE ruE (xs.drop (j + 1)) = firstE ruE xs) := Lib.hid (inner_next HYT.out (F0.out))
        go_wp2_with fail
        go_roundg (xs.length - (j + 1))
        case measure => omega
        case rel => exact ⟨j + 1, by omega, by go_num, H6, E⟩
end Go.Proofs.YtnhemjdmleilcaaGreatDoor
