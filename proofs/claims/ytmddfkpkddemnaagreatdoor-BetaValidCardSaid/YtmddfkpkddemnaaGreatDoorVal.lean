/- The reference's statics, redistributions, of a valid router. Conditions: the router lies in memory, addresses are numbers below 2^32. -/
import Derived.Test.YtmddfkpkddemnaaGreatDoorVac
import Derived.Test.YtmddfkpkddemnaaGreatDoorVai
import Derived.Test.YtmddfkpkddemnaaGreatDoorVak
import Derived.Test.YtmddfkpkddemnaaGreatDoorVaa
import Derived.StillTailTactics
import Derived.Deep.DeepCutAuto
import Derived.Deep.CutBlock
namespace Go.Proofs.YtmddfkpkddemnaaGreatDoor
open Go.RowKit
theorem bcheck_any : CRt routerE := checkRouter_any
theorem bParse_any : PRt routerE := bParse_gen routerE bcheck_any routerE_plain form_any
end Go.Proofs.YtmddfkpkddemnaaGreatDoor
namespace Go.Proofs.YtmddfkpkddemnaaGreatDoor
open Go.RowKit
theorem rwithin_any (n lo hi : Int) (w : World) : Calls Tryz.prog 19 #[.int .i64 n, .int .i64 lo, .int .i64 hi] w fun e w' => e = .returned (.bool (withinB n lo hi)) ∧ w = w' := by
  by_cases h1 : lo ≤ n
  · have E : Hid (withinB n lo hi = decide (n ≤ hi)) := Lib.hid (by simp [withinB, h1])
    go_enter Tryz.func19, Tryz.ntmps19
    go_wp2_with fail
    go_ret
    exact ⟨ret_bool E.out.symm, rfl⟩
  · have E : Hid (withinB n lo hi = false) := Lib.hid (by simp [withinB, h1])
    go_enter Tryz.func19, Tryz.ntmps19
    go_wp2_with fail
    go_ret
    exact ⟨ret_bool E.out.symm, rfl⟩
theorem idxF_at {α : Type} {p : α → Bool} {l : List α} {k : Nat} (h : k < l.length) {R : Int} (hR : idxF p (l.drop k) k = R) : R = if p l[k] then (k : Int) else idxF p (l.drop (k + 1)) (k + 1) := by
  rw [drop_at h, idxF] at hR; exact hR.symm
/-- A lookup by name. -/
abbrev LookSt (F : Nat) {α : Type} (nm : α → List UInt8) (L : Rt → List α) : Prop := ∀ (r : Rt) (name : List UInt8) (w : World) (B : Nat), r.at w B → B ≤ w.heap.size →
  Calls Tryz.prog F #[.agg r.C, .string (str name)] w fun e w' => e = .returned (.int .i64 (idxF (fun x => nm x == name) (L r) 0)) ∧ Below w.heap.size w w'
abbrev LookK {α : Type} (j n : Nat) (C : α → Array Value) (nm : α → List UInt8) (V : Rt → Value) (L : Rt → List α) : Prop :=
  (∀ r : Rt, r.C[j]? = some (V r)) ∧ (∀ x, (C x).toList.length = n) ∧ (∀ x, (C x).toList[0]? = some (.string (str (nm x)))) ∧ ∀ (r : Rt) (w : World) (B : Nat), r.at w B → SlV w B n C (V r) (L r)
abbrev LookG (j n F : Nat) : Prop := ∀ {α : Type} (nm : α → List UInt8) (L : Rt → List α) (V : Rt → Value) (C : α → Array Value), LookK j n C nm V L → LookSt F nm L
set_option maxRecDepth 8000 in
set_option maxHeartbeats 8000000 in
theorem rlook_all : (Tryz.prog.funcs[61]? = some Tryz.f61 → LookG 3 2 61) ∧ (Tryz.prog.funcs[118]? = some Tryz.f118 → LookG 4 2 118) ∧ (Tryz.prog.funcs[63]? = some Tryz.f63 → LookG 5 2 63) ∧ (Tryz.prog.funcs[66]? = some Tryz.f66 → LookG 2 12 66) := by
  refine ⟨?_, ?_, ?_, ?_⟩
  all_goals
    intro hf α nm L V C ⟨hJ, hC, hN, hA⟩ r name w B h hB
    obtain ⟨A, c, hv, hle, -⟩ := hA r w B h
    have H0 := Lib.hid (HasC.new w 41 r.C)
    have B0 : Below w.heap.size w (w.alloc (.cells r.C 41)) := (Below.refl _ w).alloc (Nat.le_refl _) _
    have HV := Lib.hid hv
    have c2 := (H0.out.cell _).trans (hJ r)
    rw [hv] at c2
    have SV := Lib.hid ((hA r w B h).below (B0.mono hB))
    have hlm : (L r).length ≤ 9223372036854775807 := by have := SV.out.len; simp only [maxLen] at this; omega
    generalize L r = l at *
    obtain ⟨R, hR⟩ : ∃ R, idxF (fun x => nm x == name) l 0 = R := ⟨_, rfl⟩
    rw [hR]
    have E := Lib.hid hR
    have HN := Lib.hid hN
    have HC := Lib.hid hC
    have B0 := Lib.hid B0
    clear h hB hv hA hJ hR hN hC
    refine calls_of_wp hf rfl ?_; clear hf; simp only [Tryz.ntmps61, Tryz.ntmps118, Tryz.ntmps63, Tryz.ntmps66, List.size_toArray, List.length_cons, List.length_nil, Nat.reduceAdd, Nat.reduceSub, Array.replicate_succ, Array.replicate_zero, List.push_toArray, List.append_toArray, List.nil_append, List.cons_append]
    go_upto_region 1 with (fail)
    change Code.wp _ _ _ _ (w.alloc (.cells r.C 41))
    generalize w.alloc (.cells r.C 41) = wA at H0 B0 SV c2 ⊢
    go_wp2_with fail
    go_loopg [5] l.length (fun gh ix wr => wr = wA ∧ ∃ k : Nat, k + gh = l.length ∧ ix = .int .i64 k ∧ Hid (idxF (fun x => nm x == name) (l.drop k) k = R))
    case atStart => exact ⟨rfl, 0, by omega, rfl, E⟩
    case round =>
      obtain ⟨rfl, k, hk, rfl, E⟩ := hrel
      by_cases hlt : k < l.length
      · have E2 := Lib.hid (idxF_at hlt E.out)
        obtain ⟨g, o, c', e', -, hg, R0⟩ := SV.out.elem (by decide) HC.out hlt
        rw [HV.out] at e'
        injection e' with e1 e2 e3
        subst e1 e3
        have c4 := R0 0 _ (HN.out _)
        generalize l[k] = x at E2 R0 c4
        clear R0 E e2
        rw [Nat.add_zero] at c4
        have hlz : (k : Int) < (l.length : Int) := by omega
        have hs : ((str (nm x)).toList == (str name).toList) = (nm x == name) := by rw [toList_str, toList_str]
        cases hq : nm x == name with
        | true =>
          rw [hq] at hs
          go_wp2_with fail
          go_ret
          exact ⟨ret_int (by rw [E2.out, hq]; rfl), B0.out⟩
        | false =>
          rw [hq] at hs
          go_wp2_with fail
          go_roundg (l.length - (k + 1))
          case measure => omega
          case rel => exact ⟨rfl, k + 1, by omega, by go_num, Lib.hid (by rw [E2.out, hq]; rfl)⟩
      · have hlz : ¬ (k : Int) < (l.length : Int) := by omega
        have E2 := Lib.hid (idxF_end hlt E.out)
        go_wp2_with fail
        go_ret
        exact ⟨ret_int E2.out.symm, B0.out⟩
theorem rlookPList_any : LookSt 61 (·.name) (fun r => r.lists) := rlook_all.1 Tryz.func61 _ _ (fun r => r.listsV) PList.C ⟨fun _ => rfl, fun _ => rfl, fun _ => rfl, fun _ _ _ h => h.hlists⟩
theorem rlookRMap_any : LookSt 118 (·.name) (fun r => r.maps) := rlook_all.2.1 Tryz.func118 _ _ (fun r => r.mapsV) RMap.C ⟨fun _ => rfl, fun _ => rfl, fun _ => rfl, fun _ _ _ h => h.hmaps⟩
theorem rlookAList_any : LookSt 63 (·.name) (fun r => r.acls) := rlook_all.2.2.1 Tryz.func63 _ _ (fun r => r.aclsV) AList.C ⟨fun _ => rfl, fun _ => rfl, fun _ => rfl, fun _ _ _ h => h.hacls⟩
theorem rlookIf_any : LookSt 66 (·.name) (fun r => r.ifs) := rlook_all.2.2.2 Tryz.func66 _ _ (fun r => r.ifsV) If.C ⟨fun _ => rfl, fun _ => rfl, fun _ => rfl, fun _ _ _ h => h.hifs⟩
end Go.Proofs.YtmddfkpkddemnaaGreatDoor
namespace Go.Proofs.YtmddfkpkddemnaaGreatDoor
theorem go_ok {n : Nat} {G : Nat → Int} {P : (k : Nat) → k < n → Prop} (hs : ∀ k (h : k < n), G k = 0 → P k h ∧ G (k + 1) = 0) (h0 : G 0 = 0) : ∀ k (h : k < n), P k h := by
  have hg : ∀ k, k ≤ n → G k = 0 := by
    intro k
    induction k with
    | zero => exact fun _ => h0
    | succ k ih => exact fun h => (hs k h (ih (Nat.le_of_succ_le h))).2
  exact fun k h => (hs k h (hg k (Nat.le_of_lt h))).1
theorem take_any {α : Type} {l : List α} {p : α → Bool} {k : Nat} (h : ¬ (l.take k).any p = true) (j : Nat) (hjn : j < l.length) (hj : j < k) : p l[j] = false := by
  cases hp : p l[j] with
  | false => rfl
  | true => exact absurd (List.any_eq_true.2 ⟨l[j], List.mem_take_iff_getElem.2 ⟨j, by omega, rfl⟩, hp⟩) h
theorem idxF_ge {α : Type} {p : α → Bool} : ∀ {l : List α} {i k : Nat}, ¬ idxF p l i < k → ∀ j (hj : j < l.length), i + j < k → p l[j] = false
  | [], _, _, _, _, hj, _ => absurd hj (Nat.not_lt_zero _)
  | y :: r, i, k, h, j, hj, hk => by
    unfold idxF at h
    cases hp : p y with
    | true => rw [if_pos hp] at h; exact absurd (show (i : Int) < k by omega) h
    | false =>
      rw [if_neg (by rw [hp]; decide)] at h
      match j, hj with
      | 0, _ => exact hp
      | j + 1, hj => exact idxF_ge (l := r) h j (by simpa using hj) (by omega)
theorem first_ok {β : Type} {f : β → Int} : ∀ {l : List β}, firstE f l = 0 → ∀ x ∈ l, f x = 0
  | [], _, _, h => by cases h
  | y :: r, h, x, hx => by
    unfold firstE at h
    by_cases h0 : f y = 0
    · rw [if_pos h0] at h
      rcases List.mem_cons.1 hx with rfl | hx
      · exact h0
      · exact first_ok h x hx
    · rw [if_neg h0] at h
      exact absurd h h0
theorem ifs_ok {l : List If} (h : ifsE l = 0) : l.length ≤ 8 ∧ ∀ k (hk : k < l.length), nameB l[k].name = true ∧ (∀ j (hj : j < l.length), j < k → (l[j].name == l[k].name) = false) ∧ rightIf l[k] = true ∧ ∀ j (hj : j < l.length), j < k → clashB l[k] l[j] = false := by
  unfold ifsE at h
  by_cases h8 : 8 < l.length
  · rw [if_pos h8] at h; cases h
  rw [if_neg h8] at h
  refine ⟨by omega, go_ok (G := fun k => ifsGo l (l.drop k) k) (fun k hk h => ?_) h⟩
  have h2 := ifsGo_at hk h
  cases hn : nameB l[k].name with
  | false => rw [hn] at h2; cases h2
  | true =>
  rw [hn] at h2
  simp only [Bool.not_true, Bool.false_eq_true, if_false] at h2
  by_cases h3 : idxF (fun y => y.name == l[k].name) l 0 < k
  · rw [if_pos h3] at h2; cases h2
  rw [if_neg h3] at h2
  cases hr : rightIf l[k] with
  | false => rw [hr] at h2; cases h2
  | true =>
  rw [hr] at h2
  simp only [Bool.not_true, Bool.false_eq_true, if_false] at h2
  by_cases h4 : (l.take k).any (clashB l[k]) = true
  · rw [if_pos h4] at h2; cases h2
  rw [if_neg h4] at h2
  exact ⟨⟨rfl, fun j hj hjk => idxF_ge h3 j hj (by omega), rfl, take_any h4⟩, h2.symm⟩
theorem listE_ok {k first size most : Int} {name : List UInt8} (h : listE k first name size most = 0) : nameB name = true ∧ ¬ first < k ∧ size ≠ 0 ∧ size ≤ most := by
  unfold listE at h
  cases hn : nameB name with
  | false => rw [hn] at h; cases h
  | true =>
  rw [hn] at h
  simp only [Bool.not_true, Bool.false_eq_true, if_false] at h
  by_cases h1 : first < k
  · rw [if_pos h1] at h; cases h
  by_cases h2 : size = 0
  · rw [if_neg h1, if_pos h2] at h; cases h
  by_cases h3 : most < size
  · rw [if_neg h1, if_neg h2, if_pos h3] at h; cases h
  exact ⟨rfl, h1, h2, by omega⟩
theorem ls_ok {α : Type} {name : α → List UInt8} {len : α → Nat} {inner : α → Int} {most : Int} {l : List α} (h : lsE name len inner most l = 0) : l.length ≤ 8 ∧ ∀ k (hk : k < l.length), nameB (name l[k]) = true ∧ (∀ j (hj : j < l.length), j < k → (name l[j] == name l[k]) = false) ∧ (len l[k] : Int) ≠ 0 ∧ (len l[k] : Int) ≤ most ∧ inner l[k] = 0 := by
  unfold lsE at h
  by_cases h8 : 8 < l.length
  · rw [if_pos h8] at h; cases h
  rw [if_neg h8] at h
  refine ⟨by omega, go_ok (G := fun k => lsGo name len inner most l (l.drop k) k) (fun k hk h => ?_) h⟩
  have h2 := lsGo_at hk h
  by_cases h3 : listE k (idxF (fun y => name y == name l[k]) l 0) (name l[k]) (len l[k]) most = 0
  · rw [if_pos h3] at h2
    obtain ⟨e1, e2, e3, e4⟩ := listE_ok h3
    by_cases h4 : inner l[k] = 0
    · rw [if_pos h4] at h2
      exact ⟨⟨e1, fun j hj hjk => idxF_ge e2 j hj (by omega), e3, e4, h4⟩, h2.symm⟩
    · rw [if_neg h4] at h2; exact absurd h2.symm h4
  · rw [if_neg h3] at h2; exact absurd h2.symm h3
theorem pair_okE {α : Type} {most : Nat} {f : α → Int} {c : α → α → Bool} {err : Int} {l : List α} (he : err ≠ 0) (h : pairE most f c err l = 0) : l.length ≤ most ∧ ∀ k (hk : k < l.length), f l[k] = 0 ∧ ∀ j (hj : j < l.length), j < k → c l[k] l[j] = false := by
  unfold pairE at h
  by_cases h8 : most < l.length
  · rw [if_pos h8] at h; cases h
  rw [if_neg h8] at h
  refine ⟨by omega, go_ok (G := fun k => pairGo f c err l (l.drop k) k) (fun k hk h => ?_) h⟩
  have h2 := pairGo_at hk h
  by_cases h3 : f l[k] = 0
  · rw [if_pos h3] at h2
    by_cases h4 : (l.take k).any (c l[k]) = true
    · rw [if_pos h4] at h2; exact absurd h2.symm he
    · rw [if_neg h4] at h2
      exact ⟨⟨h3, take_any h4⟩, h2.symm⟩
  · rw [if_neg h3] at h2; exact absurd h2.symm h3
theorem first_two {a b : Int} (h : (if a = 0 then b else a) = 0) : a = 0 ∧ b = 0 := by
  by_cases h0 : a = 0
  · rw [if_pos h0] at h; exact ⟨h0, h⟩
  · rw [if_neg h0] at h; exact absurd h h0
/-- The sections of a valid router. -/
theorem router_ok {r : Rt} (h : routerE r = 0) : nameB r.name = true ∧ withinB r.asn 0 65535 = true ∧ ifsE r.ifs = 0 ∧ plsE r.lists = 0 ∧ mapsE r.lists r.maps = 0 ∧ aclsE r.acls = 0 ∧ natsE r.acls r.nat = 0 ∧ firstE (filtE r.acls) r.ifs = 0 ∧ statsE r.ifs r.stat = 0 ∧ lnkE r = 0 ∧ dvE r = 0 ∧ pvE r = 0 := by
  unfold routerE at h
  cases hn : nameB r.name with
  | false => rw [hn] at h; cases h
  | true =>
  rw [hn] at h
  simp only [Bool.not_true, Bool.false_eq_true, if_false] at h
  cases hw : withinB r.asn 0 65535 with
  | false => rw [hw] at h; cases h
  | true =>
  rw [hw] at h
  simp only [Bool.not_true, Bool.false_eq_true, if_false] at h
  have hf := first_ok h
  unfold secsE at hf
  simpa using hf
end Go.Proofs.YtmddfkpkddemnaaGreatDoor
namespace Go.Proofs.YtmddfkpkddemnaaGreatDoor
open Go.RowKit
theorem rightIf_ok {x : If} (h : rightIf x = true) : withinB x.len 0 32 = true ∧ withinB x.vlan 0 4094 = true ∧ withinB x.side 0 2 = true ∧ ((x.len = 0 ∧ x.addr = 0 ∧ x.vlan = 0 ∧ x.side = 0 ∧ x.ls = false ∧ x.dv = false ∧ x.inn = [] ∧ x.out = []) ∨ (x.len ≠ 0 ∧ x.addr ≠ 0)) ∧ ((x.ls = true ∧ withinB x.area 0 255 = true ∧ withinB x.cost 1 65535 = true) ∨ (x.ls = false ∧ x.area = 0 ∧ x.cost = 0)) := by
  unfold rightIf at h
  simp only [Bool.and_eq_true] at h
  obtain ⟨⟨⟨⟨⟨h1, h2⟩, h3⟩, h4⟩, h5⟩, h6⟩ := h
  refine ⟨h1, h2, h3, ?_, ?_⟩
  · by_cases h0 : x.len = 0
    · rw [h0] at h4
      simp at h4
      obtain ⟨a1, a2, a3, a4, a5, a6, a7⟩ : x.addr = 0 ∧ x.vlan = 0 ∧ x.side = 0 ∧ x.ls = false ∧ x.dv = false ∧ x.inn = [] ∧ x.out = [] := by simp_all
      exact .inl ⟨h0, a1, a2, a3, a4, a5, a6, a7⟩
    · refine .inr ⟨h0, fun ha => ?_⟩
      rw [ha] at h5
      simp [h0] at h5
  · cases hl : x.ls with
    | true =>
      rw [hl] at h6
      simp only [if_true, Bool.and_eq_true] at h6
      exact .inl ⟨rfl, h6⟩
    | false =>
      rw [hl] at h6
      simp at h6
      exact .inr ⟨rfl, h6⟩
set_option maxRecDepth 100000 in
set_option maxHeartbeats 8000000 in
theorem rinterfaces_ok (l : List If) (v : Value) (w : World) (B : Nat) (hB : B ≤ w.heap.size) (hl : SlV w B 12 If.C v l) (hf : ∀ x ∈ l, x.fit) (h : ifsE l = 0) : Calls Tryz.prog 20 #[v] w fun e w' => e = .returned (.int .i64 0) ∧ Below w.heap.size w w' := by
  have HBB := Lib.hid hB
  obtain ⟨h8, hO⟩ := ifs_ok h
  have HO := Lib.hid hO
  have HF := Lib.hid hf
  have HS := Lib.hid hl
  have HWI := Lib.hid rwithin_any
  obtain ⟨A, c, rfl, -⟩ := hl
  have d8 : ¬ ((8 : Int) < (l.length : Int)) := by omega
  have HB := Lib.hid (Below.refl w.heap.size w)
  clear h hO hf
  go_enter Tryz.func20, Tryz.ntmps20
  go_wp2_with fail
  clear d8
  go_loopg [3] l.length (fun gh ix wr => ∃ k : Nat, k + gh = l.length ∧ ix = .int .i64 k ∧ Hid (Below w.heap.size w wr))
  case atStart => exact ⟨0, by omega, rfl, HB⟩
  case round =>
    clear HB
    obtain ⟨k, hk, rfl, HB⟩ := hrel
    by_cases hlt : k < l.length
    case neg =>
      have hkz : ¬ ((k : Int) < (l.length : Int)) := by omega
      go_wp2_with fail
      go_ret
      exact ⟨rfl, HB.out⟩
    have hkz : (k : Int) < (l.length : Int) := by omega
    obtain ⟨n1, n2, n3, n4⟩ := HO.out k hlt
    obtain ⟨g, o, c', e', -, hg, R0⟩ := HS.out.elem (n := 12) (by decide) (fun _ => rfl) hlt
    injection e' with e1 e2 e3
    subst e1 e3
    have r1 := Lib.hid (rangeBelow R0 (HB.out.mono HBB.out) hg)
    have FX := Lib.hid (HF.out _ (List.getElem_mem hlt))
    clear R0 e2
    generalize l[k] = x at n1 n2 n3 n4 r1 FX
    have N2 := Lib.hid n2
    have N3 := Lib.hid (rightIf_ok n3)
    have N4 := Lib.hid n4
    clear n2 n3 n4
    go_upto_region 7 with (first | (refine wpList_loadRow rfl 67 _ rfl rfl r1.out Tryz.rowIf Tryz.sizeIf ?_) | (refine wpList_storeRow rfl 67 _ _ rfl rfl rfl (HasC.new wr _ _) rfl Tryz.sizeIf (If.one x) ?_; intro w5 hz1 hz2))
    have H5 : Hid (Below w.heap.size w w5) := Lib.hid (HB.out.trans ((new_below hz2).mono HB.out.size))
    have X5 := hz1
    clear hz1 hz2 r1 HB
    generalize wr.heap.size = gx at X5 ⊢
    replace X5 := Lib.hid X5
    have x0 : w5.cell? ⟨gx, 0, none⟩ = some (.string (str x.name)) := X5.out.cell 0
    go_wp2_with fail
    refine (rnameL x.name w5).mono ?_
    rintro e w' ⟨rfl, rfl⟩
    rw [n1]
    go_wp2_with fail
    clear x0 n1
    go_loopg [5] k (fun gh ix wq => ∃ j : Nat, j + gh = k ∧ ix = .int .i64 j ∧ Hid (Below w.heap.size w wq) ∧ Hid (HasC 67 gx x.C wq))
    case atStart => exact ⟨0, by omega, rfl, H5, X5⟩
    case round =>
      clear H5 X5
      obtain ⟨j, hj, rfl, HQ, XQ⟩ := hrel
      by_cases hjl : j < k
      case pos =>
        have hjn : j < l.length := by omega
        have hjz : (j : Int) < (k : Int) := by omega
        obtain ⟨g', o', c'', e', -, hg', R0⟩ := HS.out.elem (n := 12) (by decide) (fun _ => rfl) hjn
        injection e' with e1 e2 e3
        injection e1 with e1
        injection e1 with e1 e4
        subst e1 e4
        have y0 : wr.cell? ⟨g, o + j * 12, none⟩ = some (.string (str l[j].name)) := rangeBelow R0 (HQ.out.mono HBB.out) hg' 0 _ rfl
        have x0 : wr.cell? ⟨gx, 0, none⟩ = some (.string (str x.name)) := XQ.out.cell 0
        have hs : ((str l[j].name).toList == (str x.name).toList) = false := by rw [toList_str, toList_str]; exact N2.out j hjn hjl
        have hjm : (j : Int) < (l.length : Int) := by omega
        generalize l[j].name = nm at y0 hs
        clear R0 e2 e3
        go_wp2_with fail
        go_still (by kernel_rfl)
        go_wp2_with fail
        go_roundg (k - (j + 1))
        case measure => omega
        case rel => exact ⟨j + 1, by omega, by go_num, Lib.hid (HQ.out.trans ((belowDrew wr).mono HQ.out.size)), Lib.hid (XQ.out.keep (belowDrew wr))⟩
      have hjz : ¬ ((j : Int) < (k : Int)) := by omega
      obtain ⟨name, addr, len, vlan, down, ls, area, cost, dv, inn, out, side⟩ := x
      have x1 : wr.cell? ⟨gx, 1, none⟩ = some (.int .u32 (addr : Int)) := XQ.out.cell 1
      have x2 : wr.cell? ⟨gx, 2, none⟩ = some (.int .i64 len) := XQ.out.cell 2
      have x3 : wr.cell? ⟨gx, 3, none⟩ = some (.int .i64 vlan) := XQ.out.cell 3
      have x5 : wr.cell? ⟨gx, 5, none⟩ = some (.bool ls) := XQ.out.cell 5
      have x6 : wr.cell? ⟨gx, 6, none⟩ = some (.int .i64 area) := XQ.out.cell 6
      have x7 : wr.cell? ⟨gx, 7, none⟩ = some (.int .i64 cost) := XQ.out.cell 7
      have x8 : wr.cell? ⟨gx, 8, none⟩ = some (.bool dv) := XQ.out.cell 8
      have x9 : wr.cell? ⟨gx, 9, none⟩ = some (.string (str inn)) := XQ.out.cell 9
      have x10 : wr.cell? ⟨gx, 10, none⟩ = some (.string (str out)) := XQ.out.cell 10
      have x11 : wr.cell? ⟨gx, 11, none⟩ = some (.int .i64 side) := XQ.out.cell 11
      have CX : Hid (∀ W, HasC 67 gx (If.C ⟨name, addr, len, vlan, down, ls, area, cost, dv, inn, out, side⟩) W → W.cell? ⟨gx, 1, none⟩ = some (.int .u32 (addr : Int)) ∧ W.cell? ⟨gx, 2, none⟩ = some (.int .i64 len)) := Lib.hid (fun W h => ⟨h.cell 1, h.cell 2⟩)
      generalize hcs : If.C ⟨name, addr, len, vlan, down, ls, area, cost, dv, inn, out, side⟩ = cs at XQ CX
      obtain ⟨q1, q2, q3, q4, q5⟩ := N3.out
      dsimp only at q1 q2 q3 q4 q5
      have WARM : True := trivial
      rcases q4 with ⟨e1, e2, e3, e4, e5, e6, e7, e8⟩ | ⟨l0, a0⟩
      case' inl =>
        have tn := toList_str ([] : List UInt8)
        rw [e1] at x2 q1
        rw [e2] at x1
        rw [e3] at x3 q2
        rw [e4] at x11 q3
        rw [e6] at x8
        rw [e7] at x9
        rw [e8] at x10
        replace q5 := q5.resolve_left (fun z => by rw [e5] at z; cases z.1)
        obtain ⟨z1, z2, z3⟩ := q5
        rw [e5] at x5
        rw [z2] at x6
        rw [z3] at x7
        clear e1 e2 e3 e4 e5 e6 e7 e8 z1 z2 z3
        go_wp2_with (go_at_call 19; refine (HWI.out _ _ _ _).mono ?_; rintro e w' ⟨rfl, rfl⟩)
      case' inr =>
        have l1 : (len == 0) = false := by simpa using l0
        have l2 : (len != 0) = true := by simpa using l0
        have a1 : ((addr : Int) == 0) = false := by simp; omega
        rcases q5 with ⟨rfl, z2, z3⟩ | ⟨rfl, rfl, rfl⟩
        all_goals go_wp2_with (go_at_call 19; refine (HWI.out _ _ _ _).mono ?_; rintro e w' ⟨rfl, rfl⟩)
      all_goals
        have HZ := HQ
        have XZ := XQ
        clear HQ XQ x1 x2 x3 x5 x6 x7 x8 x9 x10 x11 q1 q2 q3 WARM
        go_loopg [6] k (fun gh ix wq => ∃ j : Nat, j + gh = k ∧ ix = .int .i64 j ∧ Hid (Below w.heap.size w wq) ∧ Hid (HasC 67 gx cs wq))
        case atStart => exact ⟨0, by omega, rfl, HZ, XZ⟩
        case round =>
          clear HZ XZ
          obtain ⟨j, hj, rfl, HQ, XQ⟩ := hrel
          by_cases hjl : j < k
          case neg =>
            have hjz : ¬ ((j : Int) < (k : Int)) := by omega
            go_wp2_with fail
            go_roundg (l.length - (k + 1))
            case measure => omega
            case rel => exact ⟨k + 1, by omega, by go_num, HQ⟩
          have hjn : j < l.length := by omega
          have hjz : (j : Int) < (k : Int) := by omega
          have hjm : (j : Int) < (l.length : Int) := by omega
          obtain ⟨g', o', c'', e', -, hg', R0⟩ := HS.out.elem (n := 12) (by decide) (fun _ => rfl) hjn
          injection e' with e1 e2 e3
          injection e1 with e1
          injection e1 with e1 e4
          subst e1 e4
          have FY := Lib.hid (HF.out _ (List.getElem_mem hjn))
          have NE := N4.out j hjn hjl
          have YA : Hid (∀ W, Below w.heap.size w W → W.cell? ⟨g, o + j * 12 + 1, none⟩ = some (.int .u32 (l[j].addr : Int)) ∧ W.cell? ⟨g, o + j * 12 + 2, none⟩ = some (.int .i64 l[j].len)) := Lib.hid (fun W h => have q := rangeBelow R0 (h.mono HBB.out) hg'; ⟨q 1 _ rfl, q 2 _ rfl⟩)
          clear R0 e2 e3
          generalize l[j] = y at FY NE YA
          obtain ⟨yname, ya, yl, yvlan, ydown, yls, yarea, ycost, ydv, yinn, yout, yside⟩ := y
          have FYA : Hid (ya < 4294967296) := Lib.hid FY.out
          dsimp only at YA
          clear FY
          have PX := Lib.hid (fun W => rnetwork_any addr len W FX.out)
          have PY := Lib.hid (fun W => rnetwork_any ya yl W FYA.out)
          have PO := Lib.hid (fun W => roverlaps_any (addr / sz len * sz len) (clampN len) (ya / sz yl * sz yl) (clampN yl) W (net_lt FX.out) (net_lt FYA.out))
          unfold PV at PX PY PO
          have NE2 : len = 0 ∨ (len == 0) = false ∧ (len != 0) = true ∧ yl = 0 ∨ (len == 0) = false ∧ (len != 0) = true ∧ (yl == 0) = false ∧ (yl != 0) = true ∧ overP (addr / sz len * sz len) (clampN len) (ya / sz yl * sz yl) (clampN yl) = false := by
            unfold clashB at NE
            dsimp only at NE
            by_cases h1 : len = 0
            · exact .inl h1
            by_cases h2 : yl = 0
            · exact .inr (.inl ⟨by simpa using h1, by simpa using h1, h2⟩)
            have h1' : (len == 0) = false := by simpa using h1
            have h2' : (yl == 0) = false := by simpa using h2
            rw [h1', h2'] at NE
            exact .inr (.inr ⟨h1', by simpa using h1, h2', by simpa using h2, NE⟩)
          clear NE
          go_wp2_with fail
          refine wp_region_seq (fun W => Below w.heap.size w W ∧ HasC 67 gx cs W) (by kernel_rfl) (by kernel_rfl) ⟨HQ.out.trans ((belowDrew wr).mono HQ.out.size), XQ.out.keep (belowDrew wr)⟩ ?_
          rcases NE2 with rfl | ⟨n1, n1', rfl⟩ | ⟨n1, n1', n2, n2', n3⟩
          all_goals
            repeat
              (first
                | (refine seq_skip ?_ ?_; (· rfl))
                | (refine seq_value (v := ?_) ?_ ?_ ?_; rotate_left; (· rfl); (· (intro W hW; obtain ⟨y1, y2⟩ := YA.out W hW.1; obtain ⟨x1, x2⟩ := CX.out W hW.2; go_simp <;> rfl)))
                | (refine seq_call ?_ ?_ (fun W hW => (PX.out W).mono fun e w' ⟨he, hb⟩ => ⟨he, hW.1.trans (hb.mono hW.1.size), hW.2.keep hb⟩) ?_; (· rfl); (· (intro W hW; go_simp <;> rfl)))
                | (refine seq_call ?_ ?_ (fun W hW => (PY.out W).mono fun e w' ⟨he, hb⟩ => ⟨he, hW.1.trans (hb.mono hW.1.size), hW.2.keep hb⟩) ?_; (· rfl); (· (intro W hW; go_simp <;> rfl)))
                | (refine seq_call ?_ ?_ (fun W hW => (PO.out W).mono fun e w' ⟨he, hb⟩ => ⟨he, hW.1.trans (hb.mono hW.1.size), hW.2.keep hb⟩) ?_; (· rfl); (· (intro W hW; go_simp <;> rfl))))
              simp only [Act.put, List.setIfInBounds_toArray, List.set_cons_zero, List.set_cons_succ]
            refine seq_done (fun wq hS => ?_)
            obtain ⟨hs1, hs2⟩ := hS
            have HS1 := Lib.hid hs1
            have HS2 := Lib.hid hs2
            clear hs1 hs2 YA PX PY PO HQ XQ
            go_wp2_with fail
            go_roundg (k - (j + 1))
            case measure => omega
            case rel => exact ⟨j + 1, by omega, by go_num, HS1, HS2⟩
end Go.Proofs.YtmddfkpkddemnaaGreatDoor
namespace Go.Proofs.YtmddfkpkddemnaaGreatDoor
open Go.RowKit
set_option maxRecDepth 8000 in
theorem rports_any (lo hi : Int) (w : World) : Calls Tryz.prog 116 #[.agg #[.int .i64 lo, .int .i64 hi]] w fun e w' => e = .returned (.bool (portsB lo hi)) ∧ Below w.heap.size w w' := by
  have B0 := Lib.hid (fun o => (Below.refl w.heap.size w).alloc (Nat.le_refl _) o)
  have E : Hid (portsB lo hi = (decide (0 ≤ lo) && decide (lo ≤ hi) && decide (hi ≤ 65535))) := Lib.hid rfl
  generalize portsB lo hi = res at E ⊢
  cases h1 : decide (0 ≤ lo) <;> cases h2 : decide (lo ≤ hi) <;> cases h3 : decide (hi ≤ 65535)
  all_goals
    rw [h1, h2, h3] at E
    go_enter Tryz.func116, Tryz.ntmps116
    go_wp2_with fail
    all_goals (go_ret; exact ⟨ret_bool E.out.symm, B0.out _⟩)
theorem rall_any (lo hi : Int) (w : World) : Calls Tryz.prog 117 #[.agg #[.int .i64 lo, .int .i64 hi]] w fun e w' => e = .returned (.bool (allP lo hi)) ∧ Below w.heap.size w w' := by
  have B0 := Lib.hid (fun o => (Below.refl w.heap.size w).alloc (Nat.le_refl _) o)
  have r1 : ∀ w, (binOp .eql 117 (.agg #[.int .i64 lo, .int .i64 hi]) (.agg #[.int .i64 0, .int .i64 65535])).run Tryz.prog w = .ok (.bool (allP lo hi)) w := fun w => rng_eqlP lo hi w
  have g := Tryz.rngGuard
  go_enter Tryz.func117, Tryz.ntmps117
  go_wp2_with fail
  go_ret
  exact ⟨rfl, B0.out _⟩
set_option maxRecDepth 8000 in
set_option maxHeartbeats 4000000 in
theorem rvpr_any (x : PRule) (hx : x.pa < 4294967296) (w : World) : Calls Tryz.prog 60 #[.agg x.C] w fun e w' => e = .returned (.bool (rightPR x)) ∧ Below w.heap.size w w' := by
  have HV := Lib.hid (fun W => rvalid_any x.pa x.pl W hx)
  have H0 := Lib.hid (HasC.new w 105 x.C)
  have B0 := Lib.hid ((Below.refl w.heap.size w).alloc (Nat.le_refl _) (.cells x.C 105))
  have E : Hid (rightPR x = (validP x.pa x.pl && decide (x.pl ≤ x.min) && decide (x.min ≤ x.max) && decide (x.max ≤ 32))) := Lib.hid (by unfold rightPR; simp only [← Int.not_lt, decide_not])
  generalize rightPR x = res at E ⊢
  clear hx
  obtain ⟨permit, pa, pl, min, max⟩ := x
  dsimp only at *
  go_enter Tryz.func60, Tryz.ntmps60
  go_upto_region 1 with (fail)
  change Code.wp _ _ _ _ (w.alloc (.cells _ 105))
  generalize w.alloc (.cells _ 105) = wA at H0 B0 ⊢
  have c1 : wA.cell? ⟨w.heap.size, 1, none⟩ = some (.int .u32 pa) := H0.out.cell 1
  have c2 : wA.cell? ⟨w.heap.size, 2, none⟩ = some (.int .i64 pl) := H0.out.cell 2
  go_wp2_with fail
  refine (HV.out _).mono ?_
  rintro e w1 ⟨rfl, hb⟩
  have H1 := Lib.hid (H0.out.keep hb)
  have B1 := Lib.hid (B0.out.trans (hb.mono B0.out.size))
  have d2 : w1.cell? ⟨w.heap.size, 2, none⟩ = some (.int .i64 pl) := H1.out.cell 2
  have d3 : w1.cell? ⟨w.heap.size, 3, none⟩ = some (.int .i64 min) := H1.out.cell 3
  have d4 : w1.cell? ⟨w.heap.size, 4, none⟩ = some (.int .i64 max) := H1.out.cell 4
  clear hb c1 c2 H0 B0
  cases h1 : validP pa pl <;> cases h2 : decide (pl ≤ min) <;> cases h3 : decide (min ≤ max) <;> cases h4 : decide (max ≤ 32)
  all_goals
    rw [h1, h2, h3, h4] at E
    go_wp2_with fail
    all_goals (go_ret; exact ⟨ret_bool E.out.symm, B1.out⟩)
theorem raddress_any (r : Rt) (a : Nat) (w : World) (B : Nat) (h : r.at w B) (hB : B ≤ w.heap.size) : Calls Tryz.prog 65 #[.agg r.C, .int .u32 (a : Int)] w fun e w' => e = .returned (.int .i64 (idxF (hasA a) r.ifs 0)) ∧ Below w.heap.size w w' := by
  have HS := h.hifs
  obtain ⟨A, c, hv, hle, -⟩ := h.hifs
  have H0 := Lib.hid (HasC.new w 41 r.C)
  have B0 : Below w.heap.size w (w.alloc (.cells r.C 41)) := (Below.refl _ w).alloc (Nat.le_refl _) _
  have HV := Lib.hid hv
  have c2 : (w.alloc (.cells r.C 41)).cell? ⟨w.heap.size, 2, none⟩ = some r.ifsV := H0.out.cell 2
  rw [hv] at c2
  have SV := Lib.hid (HS.below (B0.mono hB))
  have hlm : r.ifs.length ≤ 9223372036854775807 := by have := SV.out.len; simp only [maxLen] at this; omega
  clear HS
  generalize r.ifs = l at *
  obtain ⟨R, hR⟩ : ∃ R, idxF (hasA a) l 0 = R := ⟨_, rfl⟩
  rw [hR]
  have E := Lib.hid hR
  have B0 := Lib.hid B0
  clear h hB hv hR
  go_enter Tryz.func65, Tryz.ntmps65
  go_upto_region 1 with (fail)
  change Code.wp _ _ _ _ (w.alloc (.cells r.C 41))
  generalize w.alloc (.cells r.C 41) = wA at H0 B0 SV c2 ⊢
  go_wp2_with fail
  go_loopg [5] l.length (fun gh ix wr => wr = wA ∧ ∃ k : Nat, k + gh = l.length ∧ ix = .int .i64 k ∧ Hid (idxF (hasA a) (l.drop k) k = R))
  case atStart => exact ⟨rfl, 0, by omega, rfl, E⟩
  case round =>
    obtain ⟨rfl, k, hk, rfl, E⟩ := hrel
    by_cases hlt : k < l.length
    · have E2 := Lib.hid (idxF_at hlt E.out)
      obtain ⟨g, o, c', e', -, hg, R0⟩ := SV.out.elem (n := 12) (by decide) (fun _ => rfl) hlt
      rw [HV.out] at e'
      injection e' with e1 e2 e3
      subst e1 e3
      have c4 := R0 2 _ rfl
      have c5 := R0 1 _ rfl
      generalize l[k] = x at E2 R0 c4 c5
      clear R0 E e2
      have hlz : (k : Int) < (l.length : Int) := by omega
      have HA : Hid (hasA a x = (!(x.len == 0) && x.addr == a)) := Lib.hid rfl
      cases h1 : (x.len != 0) <;> cases h2 : ((x.addr : Int) == (a : Int))
      all_goals
        have h3 : (x.len == 0) = !(x.len != 0) := by simp [bne]
        have h4 : (x.addr == a) = ((x.addr : Int) == (a : Int)) := by rw [Bool.eq_iff_iff]; simp only [beq_iff_eq]; exact Int.ofNat_inj.symm
        rw [h1] at h3
        rw [h2] at h4
        have HA2 : Hid (hasA a x = _) := Lib.hid (HA.out.trans (by rw [h3, h4]))
        clear HA h3 h4
        go_wp2_with fail
        first
          | (go_roundg (l.length - (k + 1))
             case measure => omega
             case rel => exact ⟨rfl, k + 1, by omega, by go_num, Lib.hid (by rw [E2.out, HA2.out]; rfl)⟩)
          | (go_ret; exact ⟨ret_int (by rw [E2.out, HA2.out]; rfl), B0.out⟩)
    · have hlz : ¬ (k : Int) < (l.length : Int) := by omega
      have E2 := Lib.hid (idxF_end hlt E.out)
      go_wp2_with fail
      go_ret
      exact ⟨ret_int E2.out.symm, B0.out⟩
end Go.Proofs.YtmddfkpkddemnaaGreatDoor
namespace Go.Proofs.YtmddfkpkddemnaaGreatDoor
open Go.RowKit
theorem prE_ok {x : PRule} (h : prE x = 0) : rightPR x = true := by
  unfold prE at h
  cases hr : rightPR x with
  | true => rfl
  | false => rw [hr] at h; cases h
theorem ruE_ok {x : Ru} (h : ruE x = 0) : rightRu x = true := by
  unfold ruE at h
  cases hr : rightRu x with
  | true => rfl
  | false => rw [hr] at h; cases h
theorem lacks_ok {α : Type} {name : α → List UInt8} {l : List α} {n : List UInt8} (h : lacksB name l n = false) (hn : n ≠ []) : decide (idxF (fun y => name y == n) l 0 < 0) = false := by
  unfold lacksB at h
  rw [(ne_str hn).1] at h
  simpa using h
theorem clE_ok {lists : List PList} {c : Cl} (h : clE lists c = 0) : (c.list ≠ [] → decide (idxF (fun y => y.name == c.list) lists 0 < 0) = false) ∧ withinB c.tag (-1) 65535 = true ∧ withinB c.setM (-1) 16777215 = true ∧ withinB c.setT (-1) 65535 = true ∧ withinB c.setP (-1) 1000000 = true ∧ withinB c.prep 0 8 = true := by
  unfold clE at h
  cases hl : (!c.list.isEmpty && decide (idxF (fun y => y.name == c.list) lists 0 < 0)) with
  | true => rw [hl] at h; cases h
  | false =>
  rw [hl] at h
  cases hr : rightCl c with
  | false => rw [hr] at h; cases h
  | true =>
  unfold rightCl at hr
  simp only [Bool.and_eq_true] at hr
  exact ⟨fun hn => lacks_ok (name := fun y : PList => y.name) hl hn, hr.1.1.1.1, hr.1.1.1.2, hr.1.1.2, hr.1.2, hr.2⟩
set_option maxRecDepth 8000 in
set_option maxHeartbeats 4000000 in
theorem rvru_ok (x : Ru) (h : rightRu x = true) (hx : x.fit) (w : World) : Calls Tryz.prog 62 #[.agg x.C] w fun e w' => e = .returned (.bool true) ∧ Below w.heap.size w w' := by
  have HWI := Lib.hid rwithin_any
  have HP := Lib.hid rports_any
  have HA := Lib.hid rall_any
  have H0 := Lib.hid (HasC.new w 119 x.C)
  have B0 := Lib.hid ((Below.refl w.heap.size w).alloc (Nat.le_refl _) (.cells x.C 119))
  unfold rightRu at h
  simp only [Bool.and_eq_true, beq_iff_eq] at h
  obtain ⟨⟨⟨⟨⟨h1, h2⟩, h3⟩, h4⟩, h5⟩, h6⟩ := h
  obtain ⟨f1, f2, f3, f4⟩ := hx
  have b1 : bits .and .u32 (x.sa : Int) (x.sm : Int) = 0 := by have q := u32_and_nat _ _ f1 f2; rw [h2] at q; exact q
  have b2 : bits .and .u32 (x.da : Int) (x.dm : Int) = 0 := by have q := u32_and_nat _ _ f3 f4; rw [h3] at q; exact q
  have H4 := Lib.hid h4
  have H5 := Lib.hid h5
  have H6 := Lib.hid h6
  clear f1 f2 f3 f4 h2 h3 h4 h5 h6
  unfold Ru.C at H0 B0 ⊢
  obtain ⟨permit, proto, sa, sm, da, dm, slo, shi, dlo, dhi⟩ := x
  dsimp only at *
  go_enter Tryz.func62, Tryz.ntmps62
  go_wp2_with (go_at_call 19; refine (HWI.out _ _ _ _).mono ?_; rintro e w' ⟨rfl, rfl⟩)
  refine (HP.out slo shi _).mono ?_
  rintro e w1 ⟨rfl, hb⟩
  rw [H4.out]
  have H1 := Lib.hid (H0.out.keep hb)
  have B1 := Lib.hid (B0.out.trans (hb.mono (by simp)))
  have c8 : w1.cell? ⟨w.heap.size, 8, none⟩ = some (.int .i64 dlo) := H1.out.cell 8
  have c9 : w1.cell? ⟨w.heap.size, 9, none⟩ = some (.int .i64 dhi) := H1.out.cell 9
  clear hb H0 B0
  go_wp2_with fail
  refine (HP.out dlo dhi _).mono ?_
  rintro e w2 ⟨rfl, hb⟩
  rw [H5.out]
  have H2 := Lib.hid (H1.out.keep hb)
  have B2 := Lib.hid (B1.out.trans (hb.mono B1.out.size))
  clear hb H1 B1 c8 c9
  have c1 : w2.cell? ⟨w.heap.size, 1, none⟩ = some (.int .i64 proto) := H2.out.cell 1
  have c6 : w2.cell? ⟨w.heap.size, 6, none⟩ = some (.int .i64 slo) := H2.out.cell 6
  have c7 : w2.cell? ⟨w.heap.size, 7, none⟩ = some (.int .i64 shi) := H2.out.cell 7
  by_cases h6 : proto = 6
  · subst h6
    go_wp2_with fail
    go_ret
    exact ⟨rfl, B2.out⟩
  have d6 : (proto == 6) = false := by simpa using h6
  by_cases h17 : proto = 17
  · subst h17
    go_wp2_with fail
    go_ret
    exact ⟨rfl, B2.out⟩
  have d17 : (proto == 17) = false := by simpa using h17
  have HL := H6.out
  rw [d6, d17] at HL
  simp only [Bool.false_or, Bool.and_eq_true] at HL
  have HL1 := Lib.hid HL.1
  have HL2 := Lib.hid HL.2
  clear HL h6 h17
  go_wp2_with fail
  refine (HA.out slo shi _).mono ?_
  rintro e w3 ⟨rfl, hb⟩
  rw [HL1.out]
  have H3 := Lib.hid (H2.out.keep hb)
  have B3 := Lib.hid (B2.out.trans (hb.mono B2.out.size))
  clear hb H2 B2 c1 c6 c7
  have c8 : w3.cell? ⟨w.heap.size, 8, none⟩ = some (.int .i64 dlo) := H3.out.cell 8
  have c9 : w3.cell? ⟨w.heap.size, 9, none⟩ = some (.int .i64 dhi) := H3.out.cell 9
  go_wp2_with fail
  refine (HA.out dlo dhi _).mono ?_
  rintro e w4 ⟨rfl, hb⟩
  rw [HL2.out]
  have B4 := Lib.hid (B3.out.trans (hb.mono B3.out.size))
  clear hb
  go_wp2_with fail
  go_ret
  exact ⟨rfl, B4.out⟩
set_option maxRecDepth 100000 in
set_option maxHeartbeats 8000000 in
theorem rprefixLists_ok (l : List PList) (v : Value) (w : World) (B : Nat) (hB : B ≤ w.heap.size) (hl : SlV w B 2 PList.C v l) (hn : ∀ x ∈ l, x.at w B) (hf : ∀ x ∈ l, x.fit) (hz : plsE l = 0) : Calls Tryz.prog 21 #[v] w fun e w' => e = .returned (.int .i64 0) ∧ Below w.heap.size w w' := by
  have HBB := Lib.hid hB
  have HN := Lib.hid hn
  have HF := Lib.hid hf
  have HB := Lib.hid (Below.refl w.heap.size w)
  obtain ⟨h8, hO⟩ := ls_ok hz
  obtain ⟨A, c, rfl, -⟩ := id hl
  clear hn hf
  have HO := Lib.hid hO
  have HS := Lib.hid hl
  have d8 : ¬ ((8 : Int) < (l.length : Int)) := by omega
  clear hz hO hl
  go_enter Tryz.func21, Tryz.ntmps21
  go_wp2_with fail
  clear d8
  go_loopg [3] l.length (fun gh ix wr => ∃ k : Nat, k + gh = l.length ∧ ix = .int .i64 k ∧ Hid (Below w.heap.size w wr))
  case atStart => exact ⟨0, by omega, rfl, HB⟩
  case round =>
    clear HB
    obtain ⟨k, hk, rfl, HB⟩ := hrel
    by_cases hlt : k < l.length
    case neg =>
      have hkz : ¬ ((k : Int) < (l.length : Int)) := by omega
      go_wp2_with fail
      go_ret
      exact ⟨rfl, HB.out⟩
    have hkz : (k : Int) < (l.length : Int) := by omega
    obtain ⟨n1, n2, n3, n4, n5⟩ := HO.out k hlt
    obtain ⟨g, o, c', e', -, hg, R0⟩ := HS.out.elem (n := 2) (by decide) (fun _ => rfl) hlt
    injection e' with e1 e2 e3
    subst e1 e3
    obtain ⟨A2, c2, hv2, -⟩ := id (HN.out _ (List.getElem_mem hlt))
    have HNK := Lib.hid (HN.out _ (List.getElem_mem hlt))
    have HFK := Lib.hid (HF.out _ (List.getElem_mem hlt))
    unfold PList.at at HNK
    rw [hv2] at HNK
    have XA : Hid (∀ W, Below w.heap.size w W → W.cell? ⟨g, o + k * 2, none⟩ = some (.string (str l[k].name)) ∧ W.cell? ⟨g, o + k * 2 + 1, none⟩ = some (.slice A2 l[k].rules.length c2)) := Lib.hid (fun W hW => ⟨rangeBelow R0 (hW.mono HBB.out) hg 0 _ rfl, by rw [← hv2]; exact rangeBelow R0 (hW.mono HBB.out) hg 1 _ rfl⟩)
    have N2 := Lib.hid n2
    have N5 := Lib.hid (first_ok n5)
    clear R0 e2 hv2 n2 n5
    unfold PList.fit at HFK
    generalize l[k].name = nm at n1 N2 XA
    generalize l[k].rules = rs at *
    obtain ⟨xa, xv⟩ := XA.out wr HB.out
    go_wp2_with fail
    refine (rnameL nm wr).mono ?_
    rintro e w' ⟨rfl, rfl⟩
    rw [n1]
    go_wp2_with fail
    clear xa xv n1
    go_loopg [4] k (fun gh ix wq => ∃ j : Nat, j + gh = k ∧ ix = .int .i64 j ∧ Hid (Below w.heap.size w wq))
    case atStart => exact ⟨0, by omega, rfl, HB⟩
    case round =>
      clear HB
      obtain ⟨j, hj, rfl, HQ⟩ := hrel
      obtain ⟨xa, xv⟩ := XA.out wr HQ.out
      by_cases hjl : j < k
      case pos =>
        have hjn : j < l.length := by omega
        have hjz : (j : Int) < (k : Int) := by omega
        have hjm : (j : Int) < (l.length : Int) := by omega
        obtain ⟨g', o', c'', e', -, hg', R0⟩ := HS.out.elem (n := 2) (by decide) (fun _ => rfl) hjn
        injection e' with e1 e2 e3
        injection e1 with e1
        injection e1 with e1 e4
        subst e1 e4
        have y0 : wr.cell? ⟨g, o + j * 2, none⟩ = some (.string (str l[j].name)) := rangeBelow R0 (HQ.out.mono HBB.out) hg' 0 _ rfl
        have hs : ((str l[j].name).toList == (str nm).toList) = false := by rw [toList_str, toList_str]; exact N2.out j hjn hjl
        generalize l[j].name = mm at y0 hs
        clear R0 e2 e3
        go_wp2_with fail
        go_still (by kernel_rfl)
        go_wp2_with fail
        go_roundg (k - (j + 1))
        case measure => omega
        case rel => exact ⟨j + 1, by omega, by go_num, Lib.hid (HQ.out.trans (Below.mono (belowDrew wr) HQ.out.size))⟩
      have hjz : ¬ ((j : Int) < (k : Int)) := by omega
      have hr0 : ((rs.length : Int) == 0) = false := by simpa using n3
      have hr1 : ¬ ((16 : Int) < (rs.length : Int)) := by omega
      go_wp2_with fail
      clear xa xv hr0 hr1
      go_loopg [5] rs.length (fun gh ix wq => ∃ i : Nat, i + gh = rs.length ∧ ix = .int .i64 i ∧ Hid (Below w.heap.size w wq))
      case atStart => exact ⟨0, by omega, rfl, HQ⟩
      case round =>
        clear HQ
        obtain ⟨i, hi, rfl, HQ⟩ := hrel
        obtain ⟨xa, xv⟩ := XA.out wr HQ.out
        by_cases hil : i < rs.length
        case neg =>
          have hiz : ¬ ((i : Int) < (rs.length : Int)) := by omega
          go_wp2_with fail
          go_roundg (l.length - (k + 1))
          case measure => omega
          case rel => exact ⟨k + 1, by omega, by go_num, HQ⟩
        have hiz : (i : Int) < (rs.length : Int) := by omega
        obtain ⟨g2, o2, c3, e', -, hg2, R0⟩ := HNK.out.elem (n := 5) (by decide) (fun _ => rfl) hil
        injection e' with e1 e2 e3
        subst e1 e3
        have r1 := Lib.hid (rangeBelow R0 (HQ.out.mono HBB.out) hg2)
        have OK := Lib.hid (N5.out _ (List.getElem_mem hil))
        have FX := Lib.hid (HFK.out _ (List.getElem_mem hil))
        generalize rs[i] = x at r1 OK FX
        clear R0 e2
        go_wp2_with (first | (refine wpList_loadRow rfl 105 _ rfl rfl r1.out Tryz.rowPRule Tryz.sizePRule ?_))
        have hv := rvpr_any x FX.out wr
        rw [prE_ok OK.out] at hv
        with_reducible refine hv.mono ?_
        clear hv
        rintro e w6 ⟨rfl, hb⟩
        have H6 := Lib.hid (HQ.out.trans (hb.mono HQ.out.size))
        clear hb r1 xa xv
        go_wp2_with fail
        go_roundg (rs.length - (i + 1))
        case measure => omega
        case rel => exact ⟨i + 1, by omega, by go_num, H6⟩
set_option maxRecDepth 100000 in
set_option maxHeartbeats 8000000 in
theorem raccessLists_ok (l : List AList) (v : Value) (w : World) (B : Nat) (hB : B ≤ w.heap.size) (hl : SlV w B 2 AList.C v l) (hn : ∀ x ∈ l, x.at w B) (hf : ∀ x ∈ l, x.fit) (hz : aclsE l = 0) : Calls Tryz.prog 23 #[v] w fun e w' => e = .returned (.int .i64 0) ∧ Below w.heap.size w w' := by
  have HBB := Lib.hid hB
  have HN := Lib.hid hn
  have HF := Lib.hid hf
  have HB := Lib.hid (Below.refl w.heap.size w)
  obtain ⟨h8, hO⟩ := ls_ok hz
  obtain ⟨A, c, rfl, -⟩ := id hl
  clear hn hf
  have HO := Lib.hid hO
  have HS := Lib.hid hl
  have d8 : ¬ ((8 : Int) < (l.length : Int)) := by omega
  clear hz hO hl
  go_enter Tryz.func23, Tryz.ntmps23
  go_wp2_with fail
  clear d8
  go_loopg [3] l.length (fun gh ix wr => ∃ k : Nat, k + gh = l.length ∧ ix = .int .i64 k ∧ Hid (Below w.heap.size w wr))
  case atStart => exact ⟨0, by omega, rfl, HB⟩
  case round =>
    clear HB
    obtain ⟨k, hk, rfl, HB⟩ := hrel
    by_cases hlt : k < l.length
    case neg =>
      have hkz : ¬ ((k : Int) < (l.length : Int)) := by omega
      go_wp2_with fail
      go_ret
      exact ⟨rfl, HB.out⟩
    have hkz : (k : Int) < (l.length : Int) := by omega
    obtain ⟨n1, n2, n3, n4, n5⟩ := HO.out k hlt
    obtain ⟨g, o, c', e', -, hg, R0⟩ := HS.out.elem (n := 2) (by decide) (fun _ => rfl) hlt
    injection e' with e1 e2 e3
    subst e1 e3
    obtain ⟨A2, c2, hv2, -⟩ := id (HN.out _ (List.getElem_mem hlt))
    have HNK := Lib.hid (HN.out _ (List.getElem_mem hlt))
    have HFK := Lib.hid (HF.out _ (List.getElem_mem hlt))
    unfold AList.at at HNK
    rw [hv2] at HNK
    have XA : Hid (∀ W, Below w.heap.size w W → W.cell? ⟨g, o + k * 2, none⟩ = some (.string (str l[k].name)) ∧ W.cell? ⟨g, o + k * 2 + 1, none⟩ = some (.slice A2 l[k].rules.length c2)) := Lib.hid (fun W hW => ⟨rangeBelow R0 (hW.mono HBB.out) hg 0 _ rfl, by rw [← hv2]; exact rangeBelow R0 (hW.mono HBB.out) hg 1 _ rfl⟩)
    have N2 := Lib.hid n2
    have N5 := Lib.hid (first_ok n5)
    clear R0 e2 hv2 n2 n5
    unfold AList.fit at HFK
    generalize l[k].name = nm at n1 N2 XA
    generalize l[k].rules = rs at *
    obtain ⟨xa, xv⟩ := XA.out wr HB.out
    go_wp2_with fail
    refine (rnameL nm wr).mono ?_
    rintro e w' ⟨rfl, rfl⟩
    rw [n1]
    go_wp2_with fail
    clear xa xv n1
    go_loopg [4] k (fun gh ix wq => ∃ j : Nat, j + gh = k ∧ ix = .int .i64 j ∧ Hid (Below w.heap.size w wq))
    case atStart => exact ⟨0, by omega, rfl, HB⟩
    case round =>
      clear HB
      obtain ⟨j, hj, rfl, HQ⟩ := hrel
      obtain ⟨xa, xv⟩ := XA.out wr HQ.out
      by_cases hjl : j < k
      case pos =>
        have hjn : j < l.length := by omega
        have hjz : (j : Int) < (k : Int) := by omega
        have hjm : (j : Int) < (l.length : Int) := by omega
        obtain ⟨g', o', c'', e', -, hg', R0⟩ := HS.out.elem (n := 2) (by decide) (fun _ => rfl) hjn
        injection e' with e1 e2 e3
        injection e1 with e1
        injection e1 with e1 e4
        subst e1 e4
        have y0 : wr.cell? ⟨g, o + j * 2, none⟩ = some (.string (str l[j].name)) := rangeBelow R0 (HQ.out.mono HBB.out) hg' 0 _ rfl
        have hs : ((str l[j].name).toList == (str nm).toList) = false := by rw [toList_str, toList_str]; exact N2.out j hjn hjl
        generalize l[j].name = mm at y0 hs
        clear R0 e2 e3
        go_wp2_with fail
        go_still (by kernel_rfl)
        go_wp2_with fail
        go_roundg (k - (j + 1))
        case measure => omega
        case rel => exact ⟨j + 1, by omega, by go_num, Lib.hid (HQ.out.trans (Below.mono (belowDrew wr) HQ.out.size))⟩
      have hjz : ¬ ((j : Int) < (k : Int)) := by omega
      have hr0 : ((rs.length : Int) == 0) = false := by simpa using n3
      have hr1 : ¬ ((16 : Int) < (rs.length : Int)) := by omega
      go_wp2_with fail
      clear xa xv hr0 hr1
      go_loopg [5] rs.length (fun gh ix wq => ∃ i : Nat, i + gh = rs.length ∧ ix = .int .i64 i ∧ Hid (Below w.heap.size w wq))
      case atStart => exact ⟨0, by omega, rfl, HQ⟩
      case round =>
        clear HQ
        obtain ⟨i, hi, rfl, HQ⟩ := hrel
        obtain ⟨xa, xv⟩ := XA.out wr HQ.out
        by_cases hil : i < rs.length
        case neg =>
          have hiz : ¬ ((i : Int) < (rs.length : Int)) := by omega
          go_wp2_with fail
          go_roundg (l.length - (k + 1))
          case measure => omega
          case rel => exact ⟨k + 1, by omega, by go_num, HQ⟩
        have hiz : (i : Int) < (rs.length : Int) := by omega
        obtain ⟨g2, o2, c3, e', -, hg2, R0⟩ := HNK.out.elem (n := 10) (by decide) (fun _ => rfl) hil
        injection e' with e1 e2 e3
        subst e1 e3
        have r1 := Lib.hid (rangeBelow R0 (HQ.out.mono HBB.out) hg2)
        have OK := Lib.hid (N5.out _ (List.getElem_mem hil))
        have FX := Lib.hid (HFK.out _ (List.getElem_mem hil))
        generalize rs[i] = x at r1 OK FX
        clear R0 e2
        go_wp2_with (first | (refine wpList_loadRow rfl 119 _ rfl rfl r1.out Tryz.rowRu Tryz.sizeRu ?_))
        have hv := rvru_ok x (ruE_ok OK.out) FX.out wr
        with_reducible refine hv.mono ?_
        clear hv
        rintro e w6 ⟨rfl, hb⟩
        have H6 := Lib.hid (HQ.out.trans (hb.mono HQ.out.size))
        clear hb r1 xa xv
        go_wp2_with fail
        go_roundg (rs.length - (i + 1))
        case measure => omega
        case rel => exact ⟨i + 1, by omega, by go_num, H6⟩
set_option maxRecDepth 100000 in
set_option maxHeartbeats 8000000 in
theorem rrouteMaps_ok (r : Rt) (w : World) (B : Nat) (hB : B ≤ w.heap.size) (h : r.at w B) (hz : mapsE r.lists r.maps = 0) : Calls Tryz.prog 22 #[.agg r.C] w fun e w' => e = .returned (.int .i64 0) ∧ Below w.heap.size w w' := by
  have HBB := Lib.hid hB
  have HR := Lib.hid h
  have hl := h.hmaps
  have HN := Lib.hid h.nmaps
  have HB := Lib.hid (RB.start r w)
  have c4 : (w.alloc (.cells r.C 41)).cell? ⟨w.heap.size, 4, none⟩ = some r.mapsV := HB.out.h.cell 4
  obtain ⟨h8, hO⟩ := ls_ok hz
  generalize r.maps = l at *
  obtain ⟨A, c, hv, -⟩ := id hl
  rw [hv] at c4 hl
  have HO := Lib.hid hO
  have HS := Lib.hid hl
  have d8 : ¬ ((8 : Int) < (l.length : Int)) := by omega
  clear hz hO hl h hv
  go_enter Tryz.func22, Tryz.ntmps22
  go_wp2_with fail
  clear d8 c4
  go_loopg [4] l.length (fun gh ix wr => ∃ k : Nat, k + gh = l.length ∧ ix = .int .i64 k ∧ Hid (RB r w wr))
  case atStart => exact ⟨0, by omega, rfl, HB⟩
  case round =>
    clear HB
    obtain ⟨k, hk, rfl, HB⟩ := hrel
    by_cases hlt : k < l.length
    case neg =>
      have hkz : ¬ ((k : Int) < (l.length : Int)) := by omega
      go_wp2_with fail
      go_ret
      exact ⟨rfl, HB.out.b⟩
    have hkz : (k : Int) < (l.length : Int) := by omega
    obtain ⟨n1, n2, n3, n4, n5⟩ := HO.out k hlt
    obtain ⟨g, o, c', e', -, hg, R0⟩ := HS.out.elem (n := 2) (by decide) (fun _ => rfl) hlt
    injection e' with e1 e2 e3
    subst e1 e3
    obtain ⟨A2, c2, hv2, -⟩ := id (HN.out _ (List.getElem_mem hlt))
    have HNK := Lib.hid (HN.out _ (List.getElem_mem hlt))
    unfold RMap.at at HNK
    rw [hv2] at HNK
    have XA : Hid (∀ W, Below w.heap.size w W → W.cell? ⟨g, o + k * 2, none⟩ = some (.string (str l[k].name)) ∧ W.cell? ⟨g, o + k * 2 + 1, none⟩ = some (.slice A2 l[k].clauses.length c2)) := Lib.hid (fun W hW => ⟨rangeBelow R0 (hW.mono HBB.out) hg 0 _ rfl, by rw [← hv2]; exact rangeBelow R0 (hW.mono HBB.out) hg 1 _ rfl⟩)
    have N2 := Lib.hid n2
    have N5 := Lib.hid (first_ok n5)
    clear R0 e2 hv2 n2 n5
    generalize l[k].name = nm at n1 N2 XA
    generalize l[k].clauses = rs at *
    obtain ⟨xa, xv⟩ := XA.out wr HB.out.b
    go_wp2_with fail
    refine (rnameL nm wr).mono ?_
    rintro e w' ⟨rfl, rfl⟩
    rw [n1]
    go_wp2_with fail
    clear xa xv n1
    go_loopg [5] k (fun gh ix wq => ∃ j : Nat, j + gh = k ∧ ix = .int .i64 j ∧ Hid (RB r w wq))
    case atStart => exact ⟨0, by omega, rfl, HB⟩
    case round =>
      clear HB
      obtain ⟨j, hj, rfl, HQ⟩ := hrel
      obtain ⟨xa, xv⟩ := XA.out wr HQ.out.b
      by_cases hjl : j < k
      case pos =>
        have hjn : j < l.length := by omega
        have hjz : (j : Int) < (k : Int) := by omega
        have hjm : (j : Int) < (l.length : Int) := by omega
        obtain ⟨g', o', c'', e', -, hg', R0⟩ := HS.out.elem (n := 2) (by decide) (fun _ => rfl) hjn
        injection e' with e1 e2 e3
        injection e1 with e1
        injection e1 with e1 e4
        subst e1 e4
        have y0 : wr.cell? ⟨g, o + j * 2, none⟩ = some (.string (str l[j].name)) := rangeBelow R0 (HQ.out.b.mono HBB.out) hg' 0 _ rfl
        have hs : ((str l[j].name).toList == (str nm).toList) = false := by rw [toList_str, toList_str]; exact N2.out j hjn hjl
        generalize l[j].name = mm at y0 hs
        clear R0 e2 e3
        go_wp2_with fail
        go_still (by kernel_rfl)
        go_wp2_with fail
        go_roundg (k - (j + 1))
        case measure => omega
        case rel => exact ⟨j + 1, by omega, by go_num, Lib.hid (HQ.out.keep (belowDrew wr))⟩
      have hjz : ¬ ((j : Int) < (k : Int)) := by omega
      have hr0 : ((rs.length : Int) == 0) = false := by simpa using n3
      have hr1 : ¬ ((8 : Int) < (rs.length : Int)) := by omega
      go_wp2_with fail
      clear xa xv hr0 hr1
      go_loopg [6] rs.length (fun gh ix wq => ∃ i : Nat, i + gh = rs.length ∧ ix = .int .i64 i ∧ Hid (RB r w wq))
      case atStart => exact ⟨0, by omega, rfl, HQ⟩
      case round =>
        clear HQ
        obtain ⟨i, hi, rfl, HQ⟩ := hrel
        obtain ⟨xa, xv⟩ := XA.out wr HQ.out.b
        by_cases hil : i < rs.length
        case neg =>
          have hiz : ¬ ((i : Int) < (rs.length : Int)) := by omega
          go_wp2_with fail
          go_roundg (l.length - (k + 1))
          case measure => omega
          case rel => exact ⟨k + 1, by omega, by go_num, HQ⟩
        have hiz : (i : Int) < (rs.length : Int) := by omega
        obtain ⟨g2, o2, c3, e', -, hg2, R0⟩ := HNK.out.elem (n := 7) (by decide) (fun _ => rfl) hil
        injection e' with e1 e2 e3
        subst e1 e3
        have r1 := Lib.hid (rangeBelow R0 (HQ.out.b.mono HBB.out) hg2)
        have OK := Lib.hid (N5.out _ (List.getElem_mem hil))
        generalize rs[i] = x at r1 OK
        clear R0 e2
        go_upto_region 22 with (first | (refine wpList_loadRow rfl 110 _ rfl rfl r1.out Tryz.rowCl Tryz.sizeCl ?_) | (refine wpList_storeRow rfl 110 _ _ rfl rfl rfl (HasC.new wr _ _) rfl Tryz.sizeCl (Cl.one x) ?_; intro w5 hz1 hz2))
        have HW5 : Hid (RBL r w 110 wr.heap.size x.C w5) := Lib.hid (let q := HQ.out.keep (new_below hz2); ⟨q.h, q.b, hz1⟩)
        clear hz1 hz2 r1 HQ xa xv
        generalize wr.heap.size = gx at HW5 ⊢
        obtain ⟨k1, k2, k3, k4, k5, k6⟩ := clE_ok OK.out
        have HLI := Lib.hid k1
        clear k1 OK
        have HWI := Lib.hid rwithin_any
        obtain ⟨permit, list, tag, setM, setT, setP, prep⟩ := x
        dsimp only at HLI k2 k3 k4 k5 k6
        have x1 : w5.cell? ⟨gx, 1, none⟩ = some (.string (str list)) := HW5.out.l.cell 1
        by_cases hli : list = []
        · subst hli
          have tn := toList_str ([] : List UInt8)
          have x2 : w5.cell? ⟨gx, 2, none⟩ = some (.int .i64 tag) := HW5.out.l.cell 2
          have x3 : w5.cell? ⟨gx, 3, none⟩ = some (.int .i64 setM) := HW5.out.l.cell 3
          have x4 : w5.cell? ⟨gx, 4, none⟩ = some (.int .i64 setT) := HW5.out.l.cell 4
          have x5 : w5.cell? ⟨gx, 5, none⟩ = some (.int .i64 setP) := HW5.out.l.cell 5
          have x6 : w5.cell? ⟨gx, 6, none⟩ = some (.int .i64 prep) := HW5.out.l.cell 6
          go_wp2_with (go_at_call 19; refine (HWI.out _ _ _ _).mono ?_; rintro e w' ⟨rfl, rfl⟩)
          go_roundg (rs.length - (i + 1))
          case measure => omega
          case rel => exact ⟨i + 1, by omega, by go_num, Lib.hid ⟨HW5.out.h, HW5.out.b⟩⟩
        obtain ⟨i1, i2, i3⟩ := ne_str hli
        have di := HLI.out hli
        go_wp2_with (refine wpList_unguard (by rfl) (wpList_loadRow rfl 41 _ rfl rfl HW5.out.h.range Tryz.rowRt Tryz.sizeRt ?_))
        with_reducible refine (rlookPList_any r list w5 B (HR.out.below (HW5.out.b.mono HBB.out)) (Nat.le_trans HBB.out HW5.out.b.size)).mono ?_
        rintro e w6 ⟨rfl, hb⟩
        have HW6 := Lib.hid (HW5.out.keep hb)
        clear hb HW5 x1 i1 i2 i3
        have x2 : w6.cell? ⟨gx, 2, none⟩ = some (.int .i64 tag) := HW6.out.l.cell 2
        have x3 : w6.cell? ⟨gx, 3, none⟩ = some (.int .i64 setM) := HW6.out.l.cell 3
        have x4 : w6.cell? ⟨gx, 4, none⟩ = some (.int .i64 setT) := HW6.out.l.cell 4
        have x5 : w6.cell? ⟨gx, 5, none⟩ = some (.int .i64 setP) := HW6.out.l.cell 5
        have x6 : w6.cell? ⟨gx, 6, none⟩ = some (.int .i64 prep) := HW6.out.l.cell 6
        go_wp2_with (go_at_call 19; refine (HWI.out _ _ _ _).mono ?_; rintro e w' ⟨rfl, rfl⟩)
        go_roundg (rs.length - (i + 1))
        case measure => omega
        case rel => exact ⟨i + 1, by omega, by go_num, Lib.hid ⟨HW6.out.h, HW6.out.b⟩⟩
end Go.Proofs.YtmddfkpkddemnaaGreatDoor
namespace Go.Proofs.YtmddfkpkddemnaaGreatDoor
open Go.RowKit
theorem filt_ok {acls : List AList} {x : If} (h : filtE acls x = 0) : (x.inn ≠ [] → decide (idxF (fun y => y.name == x.inn) acls 0 < 0) = false) ∧ (x.out ≠ [] → decide (idxF (fun y => y.name == x.out) acls 0 < 0) = false) := by
  unfold filtE at h
  cases h1 : lacksB (fun y : AList => y.name) acls x.inn with
  | true => rw [h1] at h; cases h
  | false =>
  cases h2 : lacksB (fun y : AList => y.name) acls x.out with
  | true => rw [h1, h2] at h; cases h
  | false => exact ⟨lacks_ok h1, lacks_ok h2⟩
theorem natE_ok {acls : List AList} {x : Tr} (h : natE acls x = 0) : rightTr x = true ∧ (x.kind = 2 → decide (idxF (fun y => y.name == x.list) acls 0 < 0) = false) := by
  unfold natE at h
  cases hr : rightTr x with
  | false => rw [hr] at h; cases h
  | true =>
  rw [hr] at h
  refine ⟨rfl, fun hk => ?_⟩
  rw [hk] at h
  cases hd : decide (idxF (fun y => y.name == x.list) acls 0 < 0) with
  | false => rfl
  | true => rw [hd] at h; cases h
theorem nats_ok {acls : List AList} {l : List Tr} (h : natsE acls l = 0) : l.length ≤ 8 ∧ ∀ x ∈ l, natE acls x = 0 := by
  unfold natsE at h
  by_cases h8 : 8 < l.length
  · rw [if_pos h8] at h; cases h
  rw [if_neg h8] at h
  exact ⟨by omega, first_ok h⟩
set_option maxRecDepth 100000 in
set_option maxHeartbeats 8000000 in
theorem rfilters_ok (r : Rt) (w : World) (B : Nat) (hB : B ≤ w.heap.size) (h : r.at w B) (hf : ∀ x ∈ r.ifs, x.fit) (hz : firstE (filtE r.acls) r.ifs = 0) : Calls Tryz.prog 25 #[.agg r.C] w fun e w' => e = .returned (.int .i64 0) ∧ Below w.heap.size w w' := by
  have HBB := Lib.hid hB
  have HR := Lib.hid h
  have HB := Lib.hid (RB.start r w)
  have HF := Lib.hid hf
  have HWI := Lib.hid rwithin_any
  have hl := h.hifs
  have hlen := hl.len
  simp only [maxLen] at hlen
  have hO := first_ok hz
  generalize r.ifs = l at *
  obtain ⟨A, c, hv, -⟩ := id hl
  have HL : Hid (∀ w', RB r w w' → w'.cell? ⟨w.heap.size, 2, none⟩ = some (.slice A l.length c)) := Lib.hid (fun w' h => by rw [← hv]; exact h.h.cell 2)
  rw [hv] at hl
  have HO := Lib.hid hO
  have HS := Lib.hid hl
  have cl := HL.out _ HB.out
  clear h hf hz hO hl hv
  go_enter Tryz.func25, Tryz.ntmps25
  go_wp2_with fail
  clear cl
  go_loopg [3] l.length (fun gh ix wr => ∃ k : Nat, k + gh = l.length ∧ ix = .int .i64 k ∧ Hid (RB r w wr))
  case atStart => exact ⟨0, by omega, rfl, HB⟩
  case round =>
    clear HB
    obtain ⟨k, hk, rfl, HB⟩ := hrel
    have cl := HL.out wr HB.out
    by_cases hlt : k < l.length
    case neg =>
      have hkz : ¬ ((k : Int) < (l.length : Int)) := by omega
      go_wp2_with fail
      go_ret
      exact ⟨rfl, HB.out.b⟩
    have hkz : (k : Int) < (l.length : Int) := by omega
    obtain ⟨g, o, c', e', -, hg, R0⟩ := HS.out.elem (n := 12) (by decide) (fun _ => rfl) hlt
    injection e' with e1 e2 e3
    subst e1 e3
    have r1 := Lib.hid (rangeBelow R0 (HB.out.b.mono HBB.out) hg)
    have FX := Lib.hid (HF.out _ (List.getElem_mem hlt))
    have OK := Lib.hid (HO.out _ (List.getElem_mem hlt))
    generalize l[k] = x at r1 FX OK
    clear R0 e2
    go_upto_region 5 with (first | (refine wpList_loadRow rfl 67 _ rfl rfl r1.out Tryz.rowIf Tryz.sizeIf ?_) | (refine wpList_storeRow rfl 67 _ _ rfl rfl rfl (HasC.new wr _ _) rfl Tryz.sizeIf (If.one x) ?_; intro w5 hz1 hz2))
    have H5 : Hid (RBL r w 67 wr.heap.size x.C w5) := Lib.hid (let q := HB.out.keep (new_below hz2); ⟨q.h, q.b, hz1⟩)
    clear hz1 hz2 r1 HB cl
    generalize wr.heap.size = gx at H5 ⊢
    obtain ⟨k1, k2⟩ := filt_ok OK.out
    obtain ⟨name, addr, len, vlan, down, ls, area, cost, dv, inn, out, side⟩ := x
    dsimp only at k1 k2
    have DI := Lib.hid k1
    have DO := Lib.hid k2
    clear k1 k2 OK FX
    have y9 : w5.cell? ⟨gx, 9, none⟩ = some (.string (str inn)) := H5.out.l.cell 9
    by_cases hi : inn = []
    · subst hi
      have tni := toList_str ([] : List UInt8)
      have y10 : w5.cell? ⟨gx, 10, none⟩ = some (.string (str out)) := H5.out.l.cell 10
      by_cases ho : out = []
      · subst ho
        have tno := toList_str ([] : List UInt8)
        go_wp2_with fail
        go_roundg (l.length - (k + 1))
        case measure => omega
        case rel => exact ⟨k + 1, by omega, by go_num, Lib.hid ⟨H5.out.h, H5.out.b⟩⟩
      obtain ⟨j1, j2, j3⟩ := ne_str ho
      have do1 := DO.out ho
      go_wp2_with (first | (refine wpList_loadRow rfl 41 _ rfl rfl H5.out.h.range Tryz.rowRt Tryz.sizeRt ?_) | (refine wpList_unguard (by rfl) (wpList_loadRow rfl 41 _ rfl rfl H5.out.h.range Tryz.rowRt Tryz.sizeRt ?_)))
      with_reducible refine (rlookAList_any r out w5 B (HR.out.below (H5.out.b.mono HBB.out)) (Nat.le_trans HBB.out H5.out.b.size)).mono ?_
      rintro e w8 ⟨rfl, hb⟩
      have H8 := Lib.hid (H5.out.keep hb)
      clear hb
      clear y10 j1 j2 j3
      go_wp2_with fail
      go_roundg (l.length - (k + 1))
      case measure => omega
      case rel => exact ⟨k + 1, by omega, by go_num, Lib.hid ⟨H8.out.h, H8.out.b⟩⟩
    obtain ⟨i1, i2, i3⟩ := ne_str hi
    have di := DI.out hi
    go_wp2_with (first | (refine wpList_loadRow rfl 41 _ rfl rfl H5.out.h.range Tryz.rowRt Tryz.sizeRt ?_) | (refine wpList_unguard (by rfl) (wpList_loadRow rfl 41 _ rfl rfl H5.out.h.range Tryz.rowRt Tryz.sizeRt ?_)))
    with_reducible refine (rlookAList_any r inn w5 B (HR.out.below (H5.out.b.mono HBB.out)) (Nat.le_trans HBB.out H5.out.b.size)).mono ?_
    rintro e w6 ⟨rfl, hb⟩
    have H6 := Lib.hid (H5.out.keep hb)
    clear hb
    clear y9 i1 i2 i3
    have y10 : w6.cell? ⟨gx, 10, none⟩ = some (.string (str out)) := H6.out.l.cell 10
    by_cases ho : out = []
    · subst ho
      have tno := toList_str ([] : List UInt8)
      go_wp2_with fail
      go_roundg (l.length - (k + 1))
      case measure => omega
      case rel => exact ⟨k + 1, by omega, by go_num, Lib.hid ⟨H6.out.h, H6.out.b⟩⟩
    obtain ⟨j1, j2, j3⟩ := ne_str ho
    have do1 := DO.out ho
    go_wp2_with (first | (refine wpList_loadRow rfl 41 _ rfl rfl H6.out.h.range Tryz.rowRt Tryz.sizeRt ?_) | (refine wpList_unguard (by rfl) (wpList_loadRow rfl 41 _ rfl rfl H6.out.h.range Tryz.rowRt Tryz.sizeRt ?_)))
    with_reducible refine (rlookAList_any r out w6 B (HR.out.below (H6.out.b.mono HBB.out)) (Nat.le_trans HBB.out H6.out.b.size)).mono ?_
    rintro e w8 ⟨rfl, hb⟩
    have H8 := Lib.hid (H6.out.keep hb)
    clear hb
    clear y10 j1 j2 j3
    go_wp2_with fail
    go_roundg (l.length - (k + 1))
    case measure => omega
    case rel => exact ⟨k + 1, by omega, by go_num, Lib.hid ⟨H8.out.h, H8.out.b⟩⟩
set_option maxRecDepth 100000 in
set_option maxHeartbeats 8000000 in
theorem rtranslations_ok (r : Rt) (w : World) (B : Nat) (hB : B ≤ w.heap.size) (h : r.at w B) (hf : ∀ x ∈ r.nat, x.fit) (hz : natsE r.acls r.nat = 0) : Calls Tryz.prog 24 #[.agg r.C] w fun e w' => e = .returned (.int .i64 0) ∧ Below w.heap.size w w' := by
  have HBB := Lib.hid hB
  have HR := Lib.hid h
  have HB := Lib.hid (RB.start r w)
  have HF := Lib.hid hf
  have HWI := Lib.hid rwithin_any
  have hl := h.hnat
  have hlen := hl.len
  simp only [maxLen] at hlen
  obtain ⟨h8, hO⟩ := nats_ok hz
  generalize r.nat = l at *
  obtain ⟨A, c, hv, -⟩ := id hl
  have HL : Hid (∀ w', RB r w w' → w'.cell? ⟨w.heap.size, 6, none⟩ = some (.slice A l.length c)) := Lib.hid (fun w' h => by rw [← hv]; exact h.h.cell 6)
  rw [hv] at hl
  have HO := Lib.hid hO
  have HS := Lib.hid hl
  have cl := HL.out _ HB.out
  have d8 : ¬ ((8 : Int) < (l.length : Int)) := by omega
  clear h hf hz hO hl hv
  go_enter Tryz.func24, Tryz.ntmps24
  go_wp2_with fail
  clear cl d8
  go_loopg [3] l.length (fun gh ix wr => ∃ k : Nat, k + gh = l.length ∧ ix = .int .i64 k ∧ Hid (RB r w wr))
  case atStart => exact ⟨0, by omega, rfl, HB⟩
  case round =>
    clear HB
    obtain ⟨k, hk, rfl, HB⟩ := hrel
    have cl := HL.out wr HB.out
    by_cases hlt : k < l.length
    case neg =>
      have hkz : ¬ ((k : Int) < (l.length : Int)) := by omega
      go_wp2_with fail
      go_ret
      exact ⟨rfl, HB.out.b⟩
    have hkz : (k : Int) < (l.length : Int) := by omega
    obtain ⟨g, o, c', e', -, hg, R0⟩ := HS.out.elem (n := 9) (by decide) (fun _ => rfl) hlt
    injection e' with e1 e2 e3
    subst e1 e3
    have r1 := Lib.hid (rangeBelow R0 (HB.out.b.mono HBB.out) hg)
    have FX := Lib.hid (HF.out _ (List.getElem_mem hlt))
    have OK := Lib.hid (HO.out _ (List.getElem_mem hlt))
    generalize l[k] = x at r1 FX OK
    clear R0 e2
    go_upto_region 7 with (first | (refine wpList_loadRow rfl 69 _ rfl rfl r1.out Tryz.rowTr Tryz.sizeTr ?_) | (refine wpList_storeRow rfl 69 _ _ rfl rfl rfl (HasC.new wr _ _) rfl Tryz.sizeTr (Tr.one x) ?_; intro w5 hz1 hz2))
    have H5 : Hid (RBL r w 69 wr.heap.size x.C w5) := Lib.hid (let q := HB.out.keep (new_below hz2); ⟨q.h, q.b, hz1⟩)
    clear hz1 hz2 r1 HB cl
    generalize wr.heap.size = gx at H5 ⊢
    obtain ⟨k1, k2⟩ := natE_ok OK.out
    have FH := FX.out.2.2.2
    obtain ⟨kind, ins, outs, proto, iport, oport, list, lo, hi⟩ := x
    dsimp only at k1 k2 FH
    have DI := Lib.hid k2
    have g := Tryz.trGuard
    have hr := k1
    unfold rightTr at hr
    clear k1 k2 OK FX
    by_cases q1 : kind = 1
    · subst q1
      rw [if_pos rfl] at hr
      unfold sameS at hr
      simp only [Bool.and_eq_true, beq_iff_eq, List.isEmpty_iff, Bool.not_eq_true', beq_eq_false_iff_ne] at hr
      obtain ⟨⟨⟨⟨⟨⟨⟨rfl, rfl⟩, rfl⟩, rfl⟩, rfl⟩, rfl⟩, p1⟩, p2⟩ := hr
      have tn := toList_str ([] : List UInt8)
      have v1 : ((ins : Int) != 0) = true := by simp; omega
      have v2 : ((outs : Int) != 0) = true := by simp; omega
      have x0 : w5.cell? ⟨gx, 0, none⟩ = some (.int .i64 1) := H5.out.l.cell 0
      have x1 : w5.cell? ⟨gx, 1, none⟩ = some (.int .u32 (ins : Int)) := H5.out.l.cell 1
      have x2 : w5.cell? ⟨gx, 2, none⟩ = some (.int .u32 (outs : Int)) := H5.out.l.cell 2
      have x3 : w5.cell? ⟨gx, 3, none⟩ = some (.int .i64 0) := H5.out.l.cell 3
      have x4 : w5.cell? ⟨gx, 4, none⟩ = some (.int .i64 0) := H5.out.l.cell 4
      have x5 : w5.cell? ⟨gx, 5, none⟩ = some (.int .i64 0) := H5.out.l.cell 5
      have x6 : w5.cell? ⟨gx, 6, none⟩ = some (.string (str [])) := H5.out.l.cell 6
      have x7 : w5.cell? ⟨gx, 7, none⟩ = some (.int .u32 0) := H5.out.l.cell 7
      have x8 : w5.cell? ⟨gx, 8, none⟩ = some (.int .u32 0) := H5.out.l.cell 8
      have HX : Hid (HasC 69 gx #[.int .i64 1, .int .u32 (ins : Int), .int .u32 (outs : Int), .int .i64 0, .int .i64 0, .int .i64 0, .string (str []), .int .u32 0, .int .u32 0] w5) := Lib.hid H5.out.l
      go_wp2_with (refine wpList_unguard (by rfl) (wpList_loadRow rfl 69 _ rfl rfl HX.out.range Tryz.rowTr Tryz.sizeTr ?_))
      go_roundg (l.length - (k + 1))
      case measure => omega
      case rel => exact ⟨k + 1, by omega, by go_num, Lib.hid ⟨H5.out.h, H5.out.b⟩⟩
    by_cases q2 : kind = 2
    · subst q2
      rw [if_neg q1, if_pos rfl] at hr
      unfold sameP at hr
      simp only [Bool.and_eq_true, beq_iff_eq, Bool.not_eq_true', beq_eq_false_iff_ne, decide_eq_true_eq] at hr
      obtain ⟨⟨⟨⟨⟨⟨⟨rfl, rfl⟩, rfl⟩, rfl⟩, rfl⟩, p1⟩, p2⟩, p3⟩ := hr
      have v1 : ((lo : Int) != 0) = true := by simp; omega
      have hle : ((lo : Int) ≤ (hi : Int)) := by omega
      have hs := u32_sub_nat hi lo p2 FH
      have di := DI.out rfl
      have x0 : w5.cell? ⟨gx, 0, none⟩ = some (.int .i64 2) := H5.out.l.cell 0
      have x1 : w5.cell? ⟨gx, 1, none⟩ = some (.int .u32 0) := H5.out.l.cell 1
      have x2 : w5.cell? ⟨gx, 2, none⟩ = some (.int .u32 0) := H5.out.l.cell 2
      have x3 : w5.cell? ⟨gx, 3, none⟩ = some (.int .i64 0) := H5.out.l.cell 3
      have x4 : w5.cell? ⟨gx, 4, none⟩ = some (.int .i64 0) := H5.out.l.cell 4
      have x5 : w5.cell? ⟨gx, 5, none⟩ = some (.int .i64 0) := H5.out.l.cell 5
      have x6 : w5.cell? ⟨gx, 6, none⟩ = some (.string (str list)) := H5.out.l.cell 6
      have x7 : w5.cell? ⟨gx, 7, none⟩ = some (.int .u32 (lo : Int)) := H5.out.l.cell 7
      have x8 : w5.cell? ⟨gx, 8, none⟩ = some (.int .u32 (hi : Int)) := H5.out.l.cell 8
      have HX : Hid (HasC 69 gx #[.int .i64 2, .int .u32 0, .int .u32 0, .int .i64 0, .int .i64 0, .int .i64 0, .string (str list), .int .u32 (lo : Int), .int .u32 (hi : Int)] w5) := Lib.hid H5.out.l
      go_wp2_with (first | (refine wpList_unguard (by rfl) (wpList_loadRow rfl 69 _ rfl rfl HX.out.range Tryz.rowTr Tryz.sizeTr ?_)) | (first | (refine wpList_loadRow rfl 41 _ rfl rfl H5.out.h.range Tryz.rowRt Tryz.sizeRt ?_) | (refine wpList_unguard (by rfl) (wpList_loadRow rfl 41 _ rfl rfl H5.out.h.range Tryz.rowRt Tryz.sizeRt ?_))))
      with_reducible refine (rlookAList_any r list w5 B (HR.out.below (H5.out.b.mono HBB.out)) (Nat.le_trans HBB.out H5.out.b.size)).mono ?_
      rintro e w7 ⟨rfl, hb⟩
      have H7 := Lib.hid (H5.out.keep hb)
      clear hb
      clear x0 x1 x2 x3 x4 x5 x6 x7 x8
      go_wp2_with fail
      go_roundg (l.length - (k + 1))
      case measure => omega
      case rel => exact ⟨k + 1, by omega, by go_num, Lib.hid ⟨H7.out.h, H7.out.b⟩⟩
    by_cases q3 : kind = 3
    · subst q3
      rw [if_neg q1, if_neg q2, if_pos rfl] at hr
      simp only [Bool.and_eq_true, beq_iff_eq, List.isEmpty_iff, Bool.not_eq_true', beq_eq_false_iff_ne] at hr
      obtain ⟨⟨⟨⟨⟨⟨⟨p1, p2⟩, p3⟩, p4⟩, p5⟩, rfl⟩, rfl⟩, rfl⟩ := hr
      have tn := toList_str ([] : List UInt8)
      have v1 : ((ins : Int) != 0) = true := by simp; omega
      have v2 : ((outs : Int) != 0) = true := by simp; omega
      have x0 : w5.cell? ⟨gx, 0, none⟩ = some (.int .i64 3) := H5.out.l.cell 0
      have x1 : w5.cell? ⟨gx, 1, none⟩ = some (.int .u32 (ins : Int)) := H5.out.l.cell 1
      have x2 : w5.cell? ⟨gx, 2, none⟩ = some (.int .u32 (outs : Int)) := H5.out.l.cell 2
      have x3 : w5.cell? ⟨gx, 3, none⟩ = some (.int .i64 proto) := H5.out.l.cell 3
      have x4 : w5.cell? ⟨gx, 4, none⟩ = some (.int .i64 iport) := H5.out.l.cell 4
      have x5 : w5.cell? ⟨gx, 5, none⟩ = some (.int .i64 oport) := H5.out.l.cell 5
      have x6 : w5.cell? ⟨gx, 6, none⟩ = some (.string (str [])) := H5.out.l.cell 6
      have x7 : w5.cell? ⟨gx, 7, none⟩ = some (.int .u32 0) := H5.out.l.cell 7
      have x8 : w5.cell? ⟨gx, 8, none⟩ = some (.int .u32 0) := H5.out.l.cell 8
      by_cases t6 : proto = 6
      · subst t6
        go_wp2_with (go_at_call 19; refine (HWI.out _ _ _ _).mono ?_; rintro e w' ⟨rfl, rfl⟩)
        go_roundg (l.length - (k + 1))
        case measure => omega
        case rel => exact ⟨k + 1, by omega, by go_num, Lib.hid ⟨H5.out.h, H5.out.b⟩⟩
      have t6' : (proto == 6) = false := by simpa using t6
      rw [t6', Bool.false_or] at p3
      have t17 : proto = 17 := by simpa using p3
      subst t17
      go_wp2_with (go_at_call 19; refine (HWI.out _ _ _ _).mono ?_; rintro e w' ⟨rfl, rfl⟩)
      go_roundg (l.length - (k + 1))
      case measure => omega
      case rel => exact ⟨k + 1, by omega, by go_num, Lib.hid ⟨H5.out.h, H5.out.b⟩⟩
    rw [if_neg q1, if_neg q2, if_neg q3] at hr
    cases hr
end Go.Proofs.YtmddfkpkddemnaaGreatDoor
namespace Go.Proofs.YtmddfkpkddemnaaGreatDoor
open Go.RowKit
theorem if_ok {c : Bool} {a e : Int} (h : (if c then a else e) = 0) (he : e ≠ 0) : c = true ∧ a = 0 := by
  cases c with
  | true => exact ⟨rfl, h⟩
  | false => exact absurd h he
theorem if_no {c : Bool} {a e : Int} (h : (if c then e else a) = 0) (he : e ≠ 0) : c = false ∧ a = 0 := by
  cases c with
  | false => exact ⟨rfl, h⟩
  | true => exact absurd h he
theorem sta_ok {ifs : List If} {x : Sr} (h : staF ifs x = 0) : validP x.pa x.pl = true ∧ withinB x.admin 1 255 = true ∧ withinB x.tag 0 65535 = true ∧ ((x.next ≠ 0 ∧ x.iface = [] ∧ x.discard = false ∧ idxF (hasA x.next) ifs 0 < 0) ∨ (x.next = 0 ∧ x.iface ≠ [] ∧ x.discard = false ∧ ∃ (i : Nat) (hi : i < ifs.length), idxF (fun y => y.name == x.iface) ifs 0 = (i : Int) ∧ ifs[i].len ≠ 0) ∨ (x.next = 0 ∧ x.iface = [] ∧ x.discard = true)) := by
  unfold staF at h
  obtain ⟨hr, h⟩ := if_ok h (by decide)
  unfold rightSr at hr
  simp only [Bool.and_eq_true] at hr
  obtain ⟨⟨⟨⟨h1, h2⟩, h3⟩, h4⟩, h5⟩ := hr
  refine ⟨h1, h4, h5, ?_⟩
  unfold kindsL at h2
  by_cases hn : x.next = 0
  · cases hi : x.iface with
    | nil =>
      rw [hn, hi] at h2
      cases hd : x.discard with
      | false => rw [hd] at h2; exact absurd h2 (by decide)
      | true => exact .inr (.inr ⟨hn, rfl, rfl⟩)
    | cons a b =>
      rw [hn, hi] at h2
      cases hd : x.discard with
      | true => rw [hd] at h2; exact absurd h2 (by simp [cntB])
      | false =>
      rw [hi] at h
      simp only [List.isEmpty_cons, Bool.false_eq_true, if_false] at h
      by_cases hx : idxF (fun y => y.name == a :: b) ifs 0 < 0
      · rw [if_pos hx] at h; cases h
      rw [if_neg hx] at h
      obtain ⟨i, hii⟩ : ∃ i : Nat, idxF (fun y => y.name == a :: b) ifs 0 = (i : Int) := ⟨_, (Int.toNat_of_nonneg (by omega)).symm⟩
      have hil : i < ifs.length := by have := (idxF_bd (fun y => y.name == a :: b) ifs 0).2; omega
      have EL : lenAt ifs (a :: b) = ifs[i].len := by unfold lenAt; rw [hii, Int.toNat_natCast, List.getElem?_eq_getElem hil]; rfl
      rw [EL] at h
      refine .inr (.inl ⟨hn, by simp, rfl, i, hil, hii, fun h0 => ?_⟩)
      rw [if_pos h0] at h; cases h
  · have hb : (x.next == 0) = false := by simpa using hn
    rw [hb, Bool.false_or] at h3
    rw [hb] at h2
    cases hi : x.iface with
    | cons a b => rw [hi] at h2; cases hd : x.discard <;> (rw [hd] at h2; exact absurd h2 (by simp [cntB]))
    | nil =>
      cases hd : x.discard with
      | true => rw [hi, hd] at h2; exact absurd h2 (by simp [cntB])
      | false => exact .inl ⟨hn, rfl, rfl, by simpa using h3⟩
theorem redF_ok {maps : List RMap} {into least most types : Int} {x : Rd} (h : redF maps into least most types x = 0) : withinB x.frm 1 5 = true ∧ (x.frm == into) = false ∧ withinB x.metric least most = true ∧ withinB x.tag 0 65535 = true ∧ withinB x.typ (min 1 types) types = true ∧ (x.map ≠ [] → decide (idxF (fun y => y.name == x.map) maps 0 < 0) = false) := by
  unfold redF at h
  obtain ⟨hr, h⟩ := if_ok h (by decide)
  simp only [Bool.and_eq_true, Bool.not_eq_true'] at hr
  obtain ⟨hl, -⟩ := if_no h (by decide)
  exact ⟨hr.1.1.1.1, hr.1.1.1.2, hr.1.1.2, hr.1.2, hr.2, lacks_ok hl⟩
set_option maxRecDepth 100000 in
set_option maxHeartbeats 8000000 in
theorem rstatics_ok (r : Rt) (w : World) (B : Nat) (hB : B ≤ w.heap.size) (h : r.at w B) (hf : ∀ x ∈ r.stat, x.fit) (hz : statsE r.ifs r.stat = 0) : Calls Tryz.prog 26 #[.agg r.C] w fun e w' => e = .returned (.int .i64 0) ∧ Below w.heap.size w w' := by
  have HBB := Lib.hid hB
  have HR := Lib.hid h
  have HB := Lib.hid (RB.start r w)
  have HF := Lib.hid hf
  have HWI := Lib.hid rwithin_any
  have hl := h.hstat
  have hlen := hl.len
  simp only [maxLen] at hlen
  obtain ⟨h8, hO⟩ := pair_okE (by decide) hz
  have HSI := Lib.hid h.hifs
  obtain ⟨A, c, hv, -⟩ := id hl
  have HL : Hid (∀ w', RB r w w' → w'.cell? ⟨w.heap.size, 7, none⟩ = some (.slice A r.stat.length c)) := Lib.hid (fun w' h => by rw [← hv]; exact h.h.cell 7)
  rw [hv] at hl
  generalize r.stat = l at *
  have HO := Lib.hid hO
  have HS := Lib.hid hl
  have cl := HL.out _ HB.out
  have d8 : ¬ ((16 : Int) < (l.length : Int)) := by omega
  clear h hf hz hO hl hv
  go_enter Tryz.func26, Tryz.ntmps26
  go_wp2_with fail
  clear cl d8
  go_loopg [3] l.length (fun gh ix wr => ∃ k : Nat, k + gh = l.length ∧ ix = .int .i64 k ∧ Hid (RB r w wr))
  case atStart => exact ⟨0, by omega, rfl, HB⟩
  case round =>
    clear HB
    obtain ⟨k, hk, rfl, HB⟩ := hrel
    have cl := HL.out wr HB.out
    by_cases hlt : k < l.length
    case neg =>
      have hkz : ¬ ((k : Int) < (l.length : Int)) := by omega
      go_wp2_with fail
      go_ret
      exact ⟨rfl, HB.out.b⟩
    have hkz : (k : Int) < (l.length : Int) := by omega
    obtain ⟨g, o, c', e', -, hg, R0⟩ := HS.out.elem (n := 7) (by decide) (fun _ => rfl) hlt
    injection e' with e1 e2 e3
    subst e1 e3
    have r1 := Lib.hid (rangeBelow R0 (HB.out.b.mono HBB.out) hg)
    have FX := Lib.hid (HF.out _ (List.getElem_mem hlt))
    obtain ⟨n1, n2⟩ := HO.out k hlt
    generalize l[k] = x at r1 FX n1 n2
    have N2 := Lib.hid n2
    clear n2
    clear R0 e2
    go_upto_region 7 with (first | (refine wpList_loadRow rfl 73 _ rfl rfl r1.out Tryz.rowSr Tryz.sizeSr ?_) | (refine wpList_storeRow rfl 73 _ _ rfl rfl rfl (HasC.new wr _ _) rfl Tryz.sizeSr (Sr.one x) ?_; intro w5 hz1 hz2))
    have H5 : Hid (RBL r w 73 wr.heap.size x.C w5) := Lib.hid (let q := HB.out.keep (new_below hz2); ⟨q.h, q.b, hz1⟩)
    clear hz1 hz2 r1 HB cl
    generalize wr.heap.size = gx at H5 ⊢
    obtain ⟨k1, k2, k3, k4⟩ := sta_ok n1
    have HK := Lib.hid k4
    have FP := Lib.hid FX.out.1
    clear k4 n1 FX
    have hvd := fun W => rvalid_any x.pa x.pl W FP.out
    rw [k1] at hvd
    unfold PV at hvd
    have HVD := Lib.hid hvd
    clear hvd k1
    obtain ⟨pa, pl, next, iface, discard, admin, tag⟩ := x
    dsimp only at HK k2 k3 HVD
    have CE : Hid (∀ W, RBL r w 73 gx (Sr.C ⟨pa, pl, next, iface, discard, admin, tag⟩) W → W.cell? ⟨gx, 2, none⟩ = some (.int .u32 (next : Int)) ∧ W.cell? ⟨gx, 3, none⟩ = some (.string (str iface)) ∧ W.cell? ⟨gx, 4, none⟩ = some (.bool discard) ∧ W.cell? ⟨gx, 5, none⟩ = some (.int .i64 admin) ∧ W.cell? ⟨gx, 6, none⟩ = some (.int .i64 tag)) := Lib.hid (fun W h => ⟨h.l.cell 2, h.l.cell 3, h.l.cell 4, h.l.cell 5, h.l.cell 6⟩)
    have x0 : w5.cell? ⟨gx, 0, none⟩ = some (.int .u32 (pa : Int)) := H5.out.l.cell 0
    have x1 : w5.cell? ⟨gx, 1, none⟩ = some (.int .i64 pl) := H5.out.l.cell 1
    have CF : Hid (∀ W, RBL r w 73 gx (Sr.C ⟨pa, pl, next, iface, discard, admin, tag⟩) W → W.cell? ⟨gx, 0, none⟩ = some (.int .u32 (pa : Int)) ∧ W.cell? ⟨gx, 1, none⟩ = some (.int .i64 pl) ∧ W.cell? ⟨gx, 5, none⟩ = some (.int .i64 admin)) := Lib.hid (fun W h => ⟨h.l.cell 0, h.l.cell 1, h.l.cell 5⟩)
    generalize Sr.C ⟨pa, pl, next, iface, discard, admin, tag⟩ = cs at H5 CE CF
    obtain ⟨x2, x3, x4, x5, x6⟩ := CE.out w5 H5.out
    have KD : (discard = false → (if next = 0 then (0 : Int) else 1) + (if iface = [] then 0 else 1) = 1) ∧ (discard = true → (if next = 0 then (0 : Int) else 1) + (if iface = [] then 0 else 1) = 0) := by
      rcases HK.out with ⟨q1, q2, q3, -⟩ | ⟨q1, q2, q3, -⟩ | ⟨q1, q2, q3⟩ <;> rw [q3] <;> simp [q1, q2]
    have KA : next ≠ 0 → iface = [] ∧ idxF (hasA next) r.ifs 0 < 0 := fun hn => by
      rcases HK.out with ⟨q1, q2, q3, q4⟩ | ⟨q1, q2, q3, -⟩ | ⟨q1, q2, q3⟩
      · exact ⟨q2, q4⟩
      · exact absurd q1 hn
      · exact absurd q1 hn
    have KI : iface ≠ [] → ∃ (i : Nat) (hi : i < r.ifs.length), idxF (fun y => y.name == iface) r.ifs 0 = (i : Int) ∧ r.ifs[i].len ≠ 0 := fun hn => by
      rcases HK.out with ⟨q1, q2, q3, q4⟩ | ⟨q1, q2, q3, q4⟩ | ⟨q1, q2, q3⟩
      · exact absurd q2 hn
      · exact q4
      · exact absurd q2 hn
    replace KD := Lib.hid KD
    replace KA := Lib.hid KA
    replace KI := Lib.hid KI
    have tni := toList_str ([] : List UInt8)
    have tne : (str ([] : List UInt8)).toList.isEmpty = true := by rw [toList_str]; rfl
    clear HK
    go_upto_if 26 with fail
    go_cut [5] (fun v wx => v = .int .i64 (if next = 0 then 0 else 1) ∧ RBL r w 73 gx cs wx)
    case first =>
      by_cases hn : next = 0
      · rw [hn] at x2
        have v1 : ((next : Int) != 0) = false := by rw [hn]; rfl
        go_wp2_with fail
        go_meet
        exact ⟨by rw [if_pos hn], H5.out⟩
      · have v1 : ((next : Int) != 0) = true := by simp; omega
        go_wp2_with fail
        go_meet
        exact ⟨by rw [if_neg hn], H5.out⟩
    case rest =>
    obtain ⟨hv5, h5⟩ := hcut
    subst hv5
    replace H5 := Lib.hid h5
    clear h5 x0 x1 x2 x3 x4 x5 x6
    obtain ⟨x2, x3, x4, x5, x6⟩ := CE.out _ H5.out
    have B8 : (if next = 0 then (0 : Int) else 1) = 0 ∨ (if next = 0 then (0 : Int) else 1) = 1 := by split <;> simp
    generalize (if next = 0 then (0 : Int) else 1) = n8 at KD B8 ⊢
    go_upto_if 31 with fail
    go_cut [5] (fun v wx => v = .int .i64 (n8 + (if iface = [] then 0 else 1)) ∧ RBL r w 73 gx cs wx)
    case first =>
      by_cases hn : iface = []
      · have v1 : (str iface).toList.isEmpty = true := by rw [str_isE, hn]; rfl
        rw [v1, Bool.not_true]
        clear v1
        go_wp2_with fail
        go_meet
        exact ⟨by rw [if_pos hn]; simp, H5.out⟩
      · obtain ⟨i1, i2, i3⟩ := ne_str hn
        have i4 : (str iface).toList.isEmpty = false := by rw [str_isE]; exact i1
        rw [i4, Bool.not_false]
        go_wp2_with fail
        go_meet
        exact ⟨by rw [if_neg hn], H5.out⟩
    case rest =>
    obtain ⟨hv5, h5⟩ := hcut
    subst hv5
    replace H5 := Lib.hid h5
    clear h5 x2 x3 x4 x5 x6
    obtain ⟨x2, x3, x4, x5, x6⟩ := CE.out _ H5.out
    have B9 : (n8 + (if iface = [] then (0 : Int) else 1)) = 0 ∨ (n8 + (if iface = [] then (0 : Int) else 1)) = 1 := by
      cases discard with
      | false => exact .inr (KD.out.1 rfl)
      | true => exact .inl (KD.out.2 rfl)
    generalize (n8 + (if iface = [] then (0 : Int) else 1)) = n9 at KD B9 ⊢
    go_upto_if 35 with fail
    go_cut [5] (fun v wx => v = .int .i64 1 ∧ RBL r w 73 gx cs wx)
    case first =>
      cases discard with
      | false =>
        have q := KD.out.1 rfl
        go_wp2_with fail
        go_meet
        exact ⟨by first | rfl | rw [q], H5.out⟩
      | true =>
        have q := KD.out.2 rfl
        go_wp2_with fail
        go_meet
        exact ⟨by first | rfl | (rw [q]; rfl), H5.out⟩
    case rest =>
    obtain ⟨hv5, h5⟩ := hcut
    subst hv5
    replace H5 := Lib.hid h5
    clear h5 x2 x3 x4 x5 x6 B8 B9 KD
    go_upto_region 14 with fail
    go_cut [69] (fun v wx => v = .bool false ∧ RBL r w 73 gx cs wx)
    case first =>
      obtain ⟨x0, x1, -⟩ := CF.out _ H5.out
      have ADR := Lib.hid (fun W (h : RBL r w 73 gx cs W) => raddress_any r next W B (HR.out.below (h.b.mono HBB.out)) (Nat.le_trans HBB.out h.b.size))
      go_wp2_with fail
      refine (HVD.out _).mono ?_
      rintro e w6 ⟨rfl, hb⟩
      have H6 := Lib.hid (H5.out.keep hb)
      clear hb x0 x1
      obtain ⟨x2, x3, x4, x5, x6⟩ := CE.out w6 H6.out
      by_cases hn : next = 0
      · rw [hn] at x2
        have v1 : ((next : Int) != 0) = false := by rw [hn]; rfl
        go_wp2_with (go_at_call 19; refine (HWI.out _ _ _ _).mono ?_; rintro e w' ⟨rfl, rfl⟩)
        go_meet
        exact ⟨rfl, H6.out⟩
      · have v1 : ((next : Int) != 0) = true := by simp; omega
        have q2 := (KA.out hn).2
        go_wp2_with (first | (refine wpList_loadRow rfl 41 _ rfl rfl H6.out.h.range Tryz.rowRt Tryz.sizeRt ?_) | (refine wpList_unguard (by rfl) (wpList_loadRow rfl 41 _ rfl rfl H6.out.h.range Tryz.rowRt Tryz.sizeRt ?_)))
        refine (ADR.out w6 H6.out).mono ?_
        rintro e wz ⟨rfl, hb⟩
        have HZ := Lib.hid (H6.out.keep hb)
        clear hb x2 x3 x4 x5 x6 ADR
        have q4 : decide ((0 : Int) ≤ idxF (hasA next) r.ifs 0) = false := decide_eq_false (by omega)
        generalize idxF (hasA next) r.ifs 0 = ix at q4 ⊢
        clear q2
        obtain ⟨x2, x3, x4, x5, x6⟩ := CE.out wz HZ.out
        go_wp2_with (go_at_call 19; refine (HWI.out _ _ _ _).mono ?_; rintro e w' ⟨rfl, rfl⟩)
        go_meet
        exact ⟨by first | rfl | rw [q4], HZ.out⟩
    case rest =>
    obtain ⟨hv5, h5⟩ := hcut
    subst hv5
    replace H5 := Lib.hid h5
    clear h5 HVD KA k2 k3
    obtain ⟨x2, x3, x4, x5, x6⟩ := CE.out _ H5.out
    go_upto_if 72 with fail
    go_cut [] (fun wx => RBL r w 73 gx cs wx)
    case first =>
      by_cases hn : iface = []
      · have v1 : (str iface).toList.isEmpty = true := by rw [str_isE, hn]; rfl
        rw [v1, Bool.not_true]
        clear v1
        go_wp2_with fail
        go_meet
        exact H5.out
      · obtain ⟨i1, i2, i3⟩ := ne_str hn
        have i4 : (str iface).toList.isEmpty = false := by rw [str_isE]; exact i1
        rw [i4, Bool.not_false]
        obtain ⟨i, hi, q2, q3⟩ := KI.out hn
        have LKI := Lib.hid (fun W (h : RBL r w 73 gx cs W) => rlookIf_any r iface W B (HR.out.below (h.b.mono HBB.out)) (Nat.le_trans HBB.out h.b.size))
        go_wp2_with (first | (refine wpList_loadRow rfl 41 _ rfl rfl H5.out.h.range Tryz.rowRt Tryz.sizeRt ?_) | (refine wpList_unguard (by rfl) (wpList_loadRow rfl 41 _ rfl rfl H5.out.h.range Tryz.rowRt Tryz.sizeRt ?_)))
        refine (LKI.out _ H5.out).mono ?_
        rintro e wz ⟨rfl, hb⟩
        have HZ := Lib.hid (H5.out.keep hb)
        clear hb x2 x3 x4 x5 x6 LKI H5 i1 i2 i3 i4
        rw [q2]
        obtain ⟨gi, oi, ci, ei, -, hgi, RI⟩ := HSI.out.elem (n := 12) (by decide) (fun _ => rfl) hi
        have cli : wz.cell? ⟨gi, oi + i * 12 + 2, none⟩ = some (.int .i64 r.ifs[i].len) := rangeBelow RI (HZ.out.b.mono HBB.out) hgi 2 _ rfl
        have csi : wz.cell? ⟨w.heap.size, 2, none⟩ = some (.slice (some ⟨gi, oi, none⟩) r.ifs.length ci) := by rw [← ei]; exact HZ.out.h.cell 2
        have hiz : (i : Int) < (r.ifs.length : Int) := by omega
        have hlm : r.ifs.length ≤ 9223372036854775807 := by have := HSI.out.len; simp only [maxLen] at this; omega
        have dz : (r.ifs[i].len == 0) = false := by simpa using q3
        clear RI ei q2
        generalize r.ifs[i].len = li at cli dz
        go_wp2_with fail
        go_meet
        exact HZ.out
    case rest =>
    have HZ := Lib.hid hcut
    clear hcut H5 KI x2 x3 x4 x5 x6
    go_wp2_with fail
    go_loopg [7] k (fun gh ix wq => ∃ j : Nat, j + gh = k ∧ ix = .int .i64 j ∧ Hid (RBL r w 73 gx cs wq))
    case atStart => exact ⟨0, by omega, rfl, HZ⟩
    case round =>
      clear HZ
      obtain ⟨j, hj, rfl, HQ⟩ := hrel
      have cl := HL.out wr ⟨HQ.out.h, HQ.out.b⟩
      by_cases hjl : j < k
      case pos =>
        have hjn : j < l.length := by omega
        have hjz : (j : Int) < (k : Int) := by omega
        have hjm : (j : Int) < (l.length : Int) := by omega
        obtain ⟨g', o', c'', e', -, hg', R0⟩ := HS.out.elem (n := 7) (by decide) (fun _ => rfl) hjn
        injection e' with e1 e2 e3
        injection e1 with e1
        injection e1 with e1 e4
        subst e1 e4
        have NE := N2.out j hjn hjl
        have YA : Hid (∀ W, RBL r w 73 gx cs W → W.cell? ⟨g, o + j * 7, none⟩ = some (.int .u32 (l[j].pa : Int)) ∧ W.cell? ⟨g, o + j * 7 + 1, none⟩ = some (.int .i64 l[j].pl) ∧ W.cell? ⟨g, o + j * 7 + 5, none⟩ = some (.int .i64 l[j].admin)) := Lib.hid (fun W h => have hb := h.b.mono HBB.out; ⟨(hb.cell (p := ⟨g, o + j * 7, none⟩) hg').trans (R0 0 _ rfl), (hb.cell (p := ⟨g, o + j * 7 + 1, none⟩) hg').trans (R0 1 _ rfl), (hb.cell (p := ⟨g, o + j * 7 + 5, none⟩) hg').trans (R0 5 _ rfl)⟩)
        unfold sameSr at NE
        dsimp only at NE
        generalize l[j] = y at YA NE
        have qe : ∀ w, (binOp .eql 71 (.agg #[.int .u32 (y.pa : Int), .int .i64 y.pl]) (.agg #[.int .u32 (pa : Int), .int .i64 pl])).run Tryz.prog w = .ok (.bool (decide (y.pa = pa ∧ y.pl = pl))) w := fun w => pfx_eql y.pa pa y.pl pl w
        have gp := Tryz.pfxGuard
        generalize decide (y.pa = pa ∧ y.pl = pl) = bp at qe NE
        cases bp
        case' false => clear NE
        case' true => simp only [Bool.true_and] at NE
        all_goals
          clear R0 e2 e3
          go_wp2_with fail
          refine wp_region_seq (fun W => RBL r w 73 gx cs W) (by kernel_rfl) (by kernel_rfl) (HQ.out.keep (belowDrew wr)) ?_
          repeat
            (first
              | (refine seq_skip ?_ ?_; (· rfl))
              | (refine seq_value (v := ?_) ?_ ?_ ?_; rotate_left; (· rfl); (· (intro W hW; obtain ⟨y0, y1, y5⟩ := YA.out W hW; obtain ⟨x0, x1, x5⟩ := CF.out W hW; have cl := HL.out W ⟨hW.h, hW.b⟩; go_simp <;> rfl))))
            simp only [Act.put, List.setIfInBounds_toArray, List.set_cons_zero, List.set_cons_succ]
          refine seq_done (fun wq hS => ?_)
          have HZ := Lib.hid hS
          clear hS YA HQ cl
          go_wp2_with fail
          go_roundg (k - (j + 1))
          case measure => omega
          case rel => exact ⟨j + 1, by omega, by go_num, HZ⟩
      have hjz : ¬ ((j : Int) < (k : Int)) := by omega
      go_wp2_with fail
      go_roundg (l.length - (k + 1))
      case measure => omega
      case rel => exact ⟨k + 1, by omega, by go_num, Lib.hid ⟨HQ.out.h, HQ.out.b⟩⟩
set_option maxRecDepth 100000 in
set_option maxHeartbeats 8000000 in
theorem rred_ok (r : Rt) (l : List Rd) (v : Value) (into least most types : Int) (ht : into = 3 ∧ types = 2 ∨ into ≠ 3 ∧ types = 0) (w : World) (B : Nat) (hB : B ≤ w.heap.size) (h : r.at w B) (hl : SlV w B 5 Rd.C v l) (hz : redE r.maps into least most types l = 0) : Calls Tryz.prog 67 #[.agg r.C, v, .int .i64 into, .int .i64 least, .int .i64 most] w fun e w' => e = .returned (.int .i64 0) ∧ Below w.heap.size w w' := by
  have HBB := Lib.hid hB
  have HR := Lib.hid h
  have HB := Lib.hid (RB.start r w)
  have HWI := Lib.hid rwithin_any
  have hlen := hl.len
  simp only [maxLen] at hlen
  obtain ⟨h8, hO⟩ := pair_okE (by decide) hz
  obtain ⟨A, c, rfl, -⟩ := id hl
  have HO := Lib.hid hO
  have HS := Lib.hid hl
  have HT := Lib.hid ht
  have d8 : ¬ ((4 : Int) < (l.length : Int)) := by omega
  clear h hz hO hl ht
  go_enter Tryz.func67, Tryz.ntmps67
  go_wp2_with fail
  clear d8
  go_loopg [11] l.length (fun gh ix wr => ∃ k : Nat, k + gh = l.length ∧ ix = .int .i64 k ∧ Hid (RB r w wr))
  case atStart => exact ⟨0, by omega, rfl, HB⟩
  case round =>
    clear HB
    obtain ⟨k, hk, rfl, HB⟩ := hrel
    by_cases hlt : k < l.length
    case neg =>
      have hkz : ¬ ((k : Int) < (l.length : Int)) := by omega
      go_wp2_with fail
      go_ret
      exact ⟨rfl, HB.out.b⟩
    have hkz : (k : Int) < (l.length : Int) := by omega
    obtain ⟨g, o, c', e', -, hg, R0⟩ := HS.out.elem (n := 5) (by decide) (fun _ => rfl) hlt
    injection e' with e1 e2 e3
    subst e1 e3
    have r1 := Lib.hid (rangeBelow R0 (HB.out.b.mono HBB.out) hg)
    obtain ⟨n1, n2⟩ := HO.out k hlt
    generalize l[k] = x at r1 n1 n2
    have N2 := Lib.hid n2
    clear n2
    clear R0 e2
    go_upto_region 7 with (first | (refine wpList_loadRow rfl 192 _ rfl rfl r1.out Tryz.rowRd Tryz.sizeRd ?_) | (refine wpList_storeRow rfl 192 _ _ rfl rfl rfl (HasC.new wr _ _) rfl Tryz.sizeRd (Rd.one x) ?_; intro w5 hz1 hz2))
    have H5 : Hid (RBL r w 192 wr.heap.size x.C w5) := Lib.hid (let q := HB.out.keep (new_below hz2); ⟨q.h, q.b, hz1⟩)
    clear hz1 hz2 r1 HB
    generalize wr.heap.size = gx at H5 ⊢
    obtain ⟨k1, k2, k3, k4, k5, k6⟩ := redF_ok n1
    have HM := Lib.hid k6
    clear k6 n1
    obtain ⟨frm, metric, tag, map, typ⟩ := x
    dsimp only at HM k1 k2 k3 k4 k5
    have x0 : w5.cell? ⟨gx, 0, none⟩ = some (.int .i64 frm) := H5.out.l.cell 0
    have x1 : w5.cell? ⟨gx, 1, none⟩ = some (.int .i64 metric) := H5.out.l.cell 1
    have x2 : w5.cell? ⟨gx, 2, none⟩ = some (.int .i64 tag) := H5.out.l.cell 2
    have x3 : w5.cell? ⟨gx, 3, none⟩ = some (.string (str map)) := H5.out.l.cell 3
    have x4 : w5.cell? ⟨gx, 4, none⟩ = some (.int .i64 typ) := H5.out.l.cell 4
    have TY : (into = 3 ∧ (typ = 1 ∨ typ = 2)) ∨ ((into == 3) = false ∧ typ = 0) := by
      unfold withinB at k5
      simp only [Bool.and_eq_true, decide_eq_true_eq] at k5
      rcases HT.out with ⟨a1, a2⟩ | ⟨a1, a2⟩
      · subst a2; exact .inl ⟨a1, by omega⟩
      · subst a2; exact .inr ⟨by simpa using a1, by omega⟩
    have IN : (into != 3) = !(into == 3) := rfl
    clear k5
    have MP : (map = [] ∧ (str map).toList = []) ∨ (map ≠ [] ∧ ((str map).toList == []) = false ∧ ((str map).toList != []) = true ∧ decide (idxF (fun y => y.name == map) r.maps 0 < 0) = false) := by
      by_cases hm : map = []
      · exact .inl ⟨hm, by rw [hm, toList_str]⟩
      · exact .inr ⟨hm, (ne_str hm).2.1, (ne_str hm).2.2, HM.out hm⟩
    have LK := Lib.hid (fun W (h : RBL r w 192 gx (Rd.C ⟨frm, metric, tag, map, typ⟩) W) => rlookRMap_any r map W B (HR.out.below (h.b.mono HBB.out)) (Nat.le_trans HBB.out h.b.size))
    have CF : Hid (∀ W, RBL r w 192 gx (Rd.C ⟨frm, metric, tag, map, typ⟩) W → W.cell? ⟨gx, 0, none⟩ = some (.int .i64 frm)) := Lib.hid (fun W h => h.l.cell 0)
    have CG : Hid (∀ W, RBL r w 192 gx (Rd.C ⟨frm, metric, tag, map, typ⟩) W → W.cell? ⟨gx, 3, none⟩ = some (.string (str map))) := Lib.hid (fun W h => h.l.cell 3)
    generalize Rd.C ⟨frm, metric, tag, map, typ⟩ = cs at H5 LK CF CG
    clear HT
    go_upto_region 9 with (go_at_call 19; refine (HWI.out _ _ _ _).mono ?_; rintro e w' ⟨rfl, rfl⟩)
    go_cut [71] (fun v wx => v = .bool false ∧ RBL r w 192 gx cs wx)
    case first =>
      rcases TY with ⟨rfl, rfl | rfl⟩ | ⟨t1, rfl⟩
      case' inr => rw [t1] at IN
      all_goals
        go_wp2_with fail
        go_meet
        exact ⟨rfl, H5.out⟩
    case rest =>
    obtain ⟨hv5, h5⟩ := hcut
    subst hv5
    replace H5 := Lib.hid h5
    clear h5 TY IN x0 x1 x2 x3 x4
    have CM := Lib.hid (CG.out _ H5.out)
    go_upto_region 11 with fail
    go_cut [81] (fun v wx => v = .bool false ∧ RBL r w 192 gx cs wx)
    case first =>
      have x3 := CM.out
      rcases MP with ⟨rfl, m2⟩ | ⟨m1, m2, m3, m4⟩
      · go_wp2_with fail
        go_meet
        exact ⟨rfl, H5.out⟩
      · go_wp2_with (first | (refine wpList_loadRow rfl 41 _ rfl rfl H5.out.h.range Tryz.rowRt Tryz.sizeRt ?_) | (refine wpList_unguard (by rfl) (wpList_loadRow rfl 41 _ rfl rfl H5.out.h.range Tryz.rowRt Tryz.sizeRt ?_)))
        with_reducible refine (LK.out _ H5.out).mono ?_
        rintro e wz ⟨rfl, hb⟩
        have HZ := Lib.hid (H5.out.keep hb)
        clear hb x3 CM
        go_wp2_with fail
        go_meet
        exact ⟨rfl, HZ.out⟩
    case rest =>
    obtain ⟨hv5, h5⟩ := hcut
    subst hv5
    have HZ := Lib.hid h5
    clear h5 H5 MP LK CM CG
    go_wp2_with fail
    go_loopg [13] k (fun gh ix wq => ∃ j : Nat, j + gh = k ∧ ix = .int .i64 j ∧ Hid (RBL r w 192 gx cs wq))
    case atStart => exact ⟨0, by omega, rfl, HZ⟩
    case round =>
      clear HZ
      obtain ⟨j, hj, rfl, HQ⟩ := hrel
      by_cases hjl : j < k
      case pos =>
        have hjn : j < l.length := by omega
        have hjz : (j : Int) < (k : Int) := by omega
        have hjm : (j : Int) < (l.length : Int) := by omega
        obtain ⟨g', o', c'', e', -, hg', R0⟩ := HS.out.elem (n := 5) (by decide) (fun _ => rfl) hjn
        injection e' with e1 e2 e3
        injection e1 with e1
        injection e1 with e1 e4
        subst e1 e4
        have NE := N2.out j hjn hjl
        have y0 : wr.cell? ⟨g, o + j * 5, none⟩ = some (.int .i64 l[j].frm) := rangeBelow R0 (HQ.out.b.mono HBB.out) hg' 0 _ rfl
        have x0 := CF.out wr HQ.out
        unfold sameRd at NE
        dsimp only at NE
        generalize l[j].frm = yf at y0 NE
        all_goals
          clear R0 e2 e3
          go_wp2_with fail
          go_still (by kernel_rfl)
          go_wp2_with fail
          go_roundg (k - (j + 1))
          case measure => omega
          case rel => exact ⟨j + 1, by omega, by go_num, Lib.hid (HQ.out.keep (belowDrew wr))⟩
      have hjz : ¬ ((j : Int) < (k : Int)) := by omega
      go_wp2_with fail
      go_roundg (l.length - (k + 1))
      case measure => omega
      case rel => exact ⟨k + 1, by omega, by go_num, Lib.hid ⟨HQ.out.h, HQ.out.b⟩⟩
end Go.Proofs.YtmddfkpkddemnaaGreatDoor
