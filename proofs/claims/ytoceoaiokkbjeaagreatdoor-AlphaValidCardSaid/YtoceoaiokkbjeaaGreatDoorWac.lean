/- The walk of the reader's method remove. Conditions: as in AlpQ. -/
import Derived.Test.YtoceoaiokkbjeaaGreatDoorWab
import Derived.StillTailTactics
set_option maxRecDepth 8000
set_option maxHeartbeats 4000000
namespace Go.Proofs.YtoceoaiokkbjeaaGreatDoor
open Lib (hid)
open Go.RowKit
def PutPost {α : Type} (E T : TypeId) (g b B : Nat) (w0 : World) (cs : Array Value) (pre post : List Orow) (Tl Ti Te : TypeId) (n : Nat) (cells : α → Array Value) (l' : List (Ls α)) (at' : Nat × Nat) (p : Ps) (e : Ending) (w' : World) : Prop :=
 ∃ v' ms' m gi cap, e = .returned (.tuple #[v', .pointer (some ⟨gi, at'.2 * n, none⟩)]) ∧ RS E T g b B w0 cs (pre ++ zAq Tl Ti Te n cells v' ms' ++ post) p w' ∧ ms'.map Lm.ls = l' ∧ ms'[at'.1]? = some m ∧ m.iv = .slice (some ⟨gi, 0, none⟩) m.items.length cap ∧ at'.2 < m.items.length
def PutMid {α : Type} (E T : TypeId) (g b B : Nat) (w0 : World) (cs : Array Value) (pre post : List Orow) (Tl Ti Te : TypeId) (n : Nat) (cells : α → Array Value) (fit : α → Prop) (x : α) (nm : List UInt8) (q : Int) (l : List (Ls α)) (p : Ps) (xb : Nat) (l0 k0 : Value) (wx : World) : Prop :=
 ∃ (v2 : Value) (ms2 : List (Lm α)) (k : Nat), ∃ hk : k < ms2.length, l0 = v2 ∧ k0 = .int .i64 (k : Int) ∧ RL E T g b B w0 cs (pre ++ zAq Tl Ti Te n cells v2 ms2 ++ post) p Te xb (cells x) wx ∧
  putL nm q x l = zAm (ms2.map Lm.ls) k (zFq q x ms2[k].ls) ∧ putAt nm q l = (k, zAc q ms2[k].seqs) ∧ LsOne fit 1000001 ms2[k].ls
theorem putL_at {α : Type} {ms : List (Lm α)} {k : Nat} (hk : k < ms.length) (nm : List UInt8) (q : Int) (x : α) (hf : findL nm (ms.map Lm.ls) = k) :
  putL nm q x (ms.map Lm.ls) = zAm (ms.map Lm.ls) k (zFq q x ms[k].ls) ∧ putAt nm q (ms.map Lm.ls) = (k, zAc q ms[k].seqs) := by
 have e : (ms.map Lm.ls)[k]? = some ms[k].ls := by rw [List.getElem?_map, List.getElem?_eq_getElem hk]; rfl
 unfold putL putAt
 rw [hf, e]
 exact ⟨rfl, rfl⟩
theorem putL_new {α : Type} {ms : List (Lm α)} (nm : List UInt8) (q : Int) (x : α) (hf : findL nm (ms.map Lm.ls) = ms.length) :
  putL nm q x (ms.map Lm.ls) = zAm ((ms ++ [Lm.new nm]).map Lm.ls) ms.length (zFq q x (Lm.new nm).ls) ∧ putAt nm q (ms.map Lm.ls) = (ms.length, zAc q (Lm.new nm : Lm α).seqs) := by
 have e : (ms.map Lm.ls)[ms.length]? = none := List.getElem?_eq_none (by simp)
 have e2 : zFq q x (Lm.new nm).ls = ⟨nm, [q], [x]⟩ := rfl
 have e3 : List.drop (ms.length + 1) (List.map Lm.ls ms ++ List.map Lm.ls [(Lm.new nm : Lm α)]) = [] := List.drop_eq_nil_of_le (by simp)
 unfold putL putAt
 rw [hf, e, e2]
 refine ⟨?_, by simp [Lm.new, zAc]⟩
 unfold zAm
 rw [List.map_append, List.take_append_of_le_length (by simp), List.take_of_length_le (by simp), e3]
theorem zFv {α : Type} {T : TypeId} {v : Value} {ms : List (Lm α)} {k : Nat} (hk : k < ms.length) {m : Lm α} (h : m.C = ms[k].C) : rowE T 3 Lm.C v (zAm ms k m) = rowE T 3 Lm.C v ms := by
 have e : (zAm ms k m).flatMap (fun x => x.C.toList) = ms.flatMap (fun x => x.C.toList) := by
  conv => rhs; rw [zKk hk]
  unfold zAm
  rw [List.flatMap_append, List.flatMap_append, List.flatMap_cons, List.flatMap_cons, h]
 unfold rowE
 rw [zBf hk, e]
theorem zDa {α : Type} {l : List α} {k : Nat} (hk : k < l.length) (x : α) : (zAm l k x)[k]? = some x := by
 unfold zAm
 rw [List.getElem?_append_right (by rw [List.length_take]; omega), List.length_take, Nat.min_eq_left (Nat.le_of_lt hk), Nat.sub_self]
 rfl
theorem sub_lf {pre A Bq post : List Orow} {o s i : Orow} : [o, s, i].Sublist (lf pre A Bq post o s i) := by
 unfold lf
 refine List.Sublist.trans ?_ (List.sublist_append_left _ _)
 refine List.Sublist.trans ?_ (List.sublist_append_right _ _)
 refine List.Sublist.cons_cons o (List.Sublist.trans ?_ (List.sublist_append_right _ _))
 exact List.Sublist.cons_cons s (List.Sublist.cons_cons i (List.nil_sublist _))
section
variable {E T El : TypeId} {g b B xb : Nat} {w0 w : World} {cs cl : Array Value} {pre post A Bq : List Orow} {p : Ps} {o s i : Orow}
theorem RL.ne (h : RL E T g b B w0 cs (lf pre A Bq post o s i) p El xb cl w) {x y : Nat} : (o.v.ownBlock = some x → s.v.ownBlock = some y → x ≠ y) ∧ (o.v.ownBlock = some x → i.v.ownBlock = some y → x ≠ y) ∧ (s.v.ownBlock = some x → i.v.ownBlock = some y → x ≠ y) := by
 have hn : ([o, s, i].filterMap (·.v.ownBlock)).Nodup := h.base.own.2.sublist (sub_lf.filterMap _)
 refine ⟨fun h1 h2 e => ?_, fun h1 h2 e => ?_, fun h1 h2 e => ?_⟩
 ·subst e
  rw [List.filterMap_cons, List.filterMap_cons, h1, h2] at hn
  simp at hn
 ·subst e
  rw [List.filterMap_cons, h1] at hn
  have : x ∈ [s, i].filterMap (·.v.ownBlock) := List.mem_filterMap.2 ⟨i, by simp, h2⟩
  exact (List.nodup_cons.1 hn).1 this
 ·subst e
  have hn2 : ([s, i].filterMap (·.v.ownBlock)).Nodup := hn.sublist (List.Sublist.filterMap _ (List.sublist_cons_self o _))
  rw [List.filterMap_cons, h1] at hn2
  have : x ∈ [i].filterMap (·.v.ownBlock) := List.mem_filterMap.2 ⟨i, by simp, h2⟩
  exact (List.nodup_cons.1 hn2).1 this
end
section
variable {E : TypeId} {g b B : Nat} {w0 : World} {cs : Array Value} {pre post : List Orow}
theorem Tryz.infoPPRule : (Tryz.prog.info? 135).map (fun i => (i.zero.map (fun z => z.cells.size), i.size, i.bytes)) = some (some 3, 3, 64) := by kernel_rfl
theorem zFz (v : Value) (ms : List (Lm PRule)) (name : List UInt8) (q : Int) (x : PRule) (p : Ps) (w : World) (h : RS E 131 g b B w0 cs (pre ++ zAq 135 3 96 5 PRule.C v ms ++ post) p w) (hk : LsOk PRule.fit 1000000 (ms.map Lm.ls)) (hx : x.fit) :
  Calls Tryz.prog 175 #[v, .string (str name), .int .i64 q, .agg x.C] w (PutPost E 131 g b B w0 cs pre post 135 3 96 5 PRule.C (putL name q x (ms.map Lm.ls)) (putAt name q (ms.map Lm.ls)) p) := by
 have hml : ms.length ≤ 1000000 := by have := hk.1; simpa using this
 have HO0 : OwnE w B 135 3 Lm.C v ms := h.own.1 (rowE 135 3 Lm.C v ms) (by simp [zAq])
 obtain ⟨A0, c0, e0, -⟩ := HO0.slv
 subst e0
 have hw0 := h.size
 have hbB := h.bB
 have K0 : RL E 131 g b B w0 cs (pre ++ zAq 135 3 96 5 PRule.C (.slice A0 ms.length c0) ms ++ post) p 96 w.heap.size x.C (w.alloc (.cells x.C 96)) := RL.start h (HasC.new _ _ _) (World.grownBy.refl _ _)
 have R0 := hid K0
 have HOa : OwnE (w.alloc (.cells x.C 96)) B 135 3 Lm.C (.slice A0 ms.length c0) ms := K0.base.own.1 (rowE 135 3 Lm.C (.slice A0 ms.length c0) ms) (by simp [zAq])
 have HS := hid HOa.slv
 have HK := hid hk
 have HX := hid hx
 have HF := hid (zHs name ms)
 clear K0 hk hx h HO0 HOa
 go_enter Tryz.func175, Tryz.ntmps175
 go_wp2_with fail
 refine (zJi _ ms name _ HS.out).mono ?_
 rintro e w1 ⟨rfl, hb1⟩
 have R1 := hid (R0.out.keep hb1)
 clear hb1 HS
 generalize idxF (fun m => m.name == name) ms 0 = kk at HF ⊢
 go_upto_if 18 with (fail)
 go_cut [0, 10] (fun l0 k0 wx => PutMid E 131 g b B w0 cs pre post 135 3 96 5 PRule.C PRule.fit x name q (ms.map Lm.ls) p w.heap.size l0 k0 wx)
 case first =>
  rcases HF.out with ⟨rfl, e2⟩ | ⟨k, hkl, rfl, e2⟩
  ·have HO1 : OwnE w1 B 135 3 Lm.C (.slice A0 ms.length c0) ms := R1.out.base.own.1 (rowE 135 3 Lm.C (.slice A0 ms.length c0) ms) (by simp [zAq])
   obtain ⟨A5, m5, c5, w5, hr, ho5, hg5, hn5⟩ := HO1.push (P := Tryz.prog) (by have := R1.out.base.size; omega) Tryz.underlying82 Tryz.infoPPRule (by decide) (fun _ => rfl) (Lm.new name) (Lm.one _) (by omega) (by decide) 82
   have R5 : RL E 131 g b B w0 cs (pre ++ rowE 135 3 Lm.C (.slice A5 m5 c5) (ms ++ [Lm.new name]) :: (ms.flatMap (Lm.rows 3 96 5 PRule.C) ++ post)) p 96 w.heap.size x.C w5 := RL.row (r := rowE 135 3 Lm.C (.slice A0 ms.length c0) ms) (r' := rowE 135 3 Lm.C (.slice A5 m5 c5) (ms ++ [Lm.new name])) (by have := R1.out; unfold zAq at this; simpa using this) hg5 ho5 hn5
   have R6 : RL E 131 g b B w0 cs (pre ++ zAq 135 3 96 5 PRule.C (.slice A5 m5 c5) (ms ++ [Lm.new name]) ++ post) p 96 w.heap.size x.C w5 := by
    have := RL.more (pre := pre ++ rowE 135 3 Lm.C (.slice A5 m5 c5) (ms ++ [Lm.new name]) :: ms.flatMap (Lm.rows 3 96 5 PRule.C)) (post := post) (by simpa using R5) (l := Lm.rows 3 96 5 PRule.C (Lm.new name)) (fun r hr => by
     simp only [Lm.rows, List.mem_cons, List.not_mem_nil, or_false] at hr
     rcases hr with rfl | rfl
     ·exact ⟨OwnE.nil (cells := intC), rfl⟩
     ·exact ⟨OwnE.nil (cells := PRule.C), rfl⟩)
    unfold zAq
    simpa using this
   have HR := hid hr
   have H6 := hid R6
   have E2 := hid e2
   clear hr ho5 hg5 hn5 R5 R6 HO1 e2
   go_wp2_with (at_builtin; refine Lib.wpList_append_run _ rfl _ _ _ _ rfl _ _ rfl rfl _ _ HR.out ?_)
   go_meet
   obtain ⟨p1, p2⟩ := putL_new name q x E2.out
   exact ⟨_, ms ++ [Lm.new name], ms.length, by simp, rfl, rfl, H6.out, by rw [p1]; simp, by rw [p2]; simp, by simpa using (⟨rfl, .nil, List.Pairwise.nil⟩ : LsOne PRule.fit 1000001 (Lm.new name).ls)⟩
  ·have hk0 : ¬ ((k : Int) < 0) := by omega
   have E2 := hid e2
   clear e2
   go_wp2_with fail
   go_meet
   obtain ⟨p1, p2⟩ := putL_at hkl name q x E2.out
   exact ⟨_, ms, k, hkl, rfl, rfl, R1.out, p1, p2, (HK.out.2 _ (List.mem_map_of_mem (List.getElem_mem hkl))).up (by decide)⟩
 case rest =>
  obtain ⟨v2, ms2, k, hk2, rfl, rfl, R, hq1, hq2, hq3⟩ := hcut
  rw [zFt pre post hk2] at R
  obtain ⟨m, hm⟩ : ∃ m, m = ms2[k] := ⟨_, rfl⟩
  rw [← hm] at R hq1 hq2 hq3
  have E1 := hid hq1
  have E2 := hid hq2
  have HL := hid hq3
  obtain ⟨A, hA⟩ : ∃ A, A = (ms2.take k).flatMap (Lm.rows 3 96 5 PRule.C) := ⟨_, rfl⟩
  obtain ⟨Bq, hBq⟩ : ∃ A, A = (ms2.drop (k + 1)).flatMap (Lm.rows 3 96 5 PRule.C) := ⟨_, rfl⟩
  rw [← hA, ← hBq] at R
  have HO : OwnE wc B 135 3 Lm.C _ ms2 := R.oAt
  obtain ⟨gl, capl, curl, rfl, hglB, hpt, hput⟩ := HO.part (by decide) (fun _ => rfl) hk2
  rw [← hm] at hpt
  have HB := hid (zEu B m.sv m.seqs q wc R.sAt hq3.asc (by have h1 := hq3.items.1; have h2 := hq3.len; have h3 : m.items.length ≤ 1000001 := h1; have h4 : m.items.length = m.seqs.length := h2; omega))
  have RC := hid R
  have HPC := hid hpt
  have HPut := hid hput
  have HA := hid hA
  have HBq := hid hBq
  have HM := hid hm
  have hkz : (k : Int) < (ms2.length : Int) := by omega
  have hk0 : (0 : Int) ≤ (k : Int) := by omega
  have cS : wc.cell? ⟨gl, k * 3 + 1, none⟩ = .some m.sv := hpt.cell (j := 1) (by show 1 < 3; decide)
  clear hq1 hq2 hq3 R hpt hput hA hBq hm HO
  go_wp2_with fail
  refine HB.out.mono ?_
  rintro e wb ⟨rfl, hb2⟩
  have RB := hid (RC.out.keep hb2)
  have HPT := hid (HPC.out.below hb2)
  have HK2 := hid hk2
  clear hb2 cS HB
  have hlen : m.items.length = m.seqs.length := HL.out.len
  have hile := zEg q m.seqs
  have cx0 : wb.cell? ⟨w.heap.size, 0, none⟩ = .some (.bool x.permit) := RB.out.loc.cell 0
  have cx1 : wb.cell? ⟨w.heap.size, 1, none⟩ = .some (.int .u32 (x.pa : Int)) := RB.out.loc.cell 1
  have cx2 : wb.cell? ⟨w.heap.size, 2, none⟩ = .some (.int .i64 x.pl) := RB.out.loc.cell 2
  have cx3 : wb.cell? ⟨w.heap.size, 3, none⟩ = .some (.int .i64 x.min) := RB.out.loc.cell 3
  have cx4 : wb.cell? ⟨w.heap.size, 4, none⟩ = .some (.int .i64 x.max) := RB.out.loc.cell 4
  cases hs : zDq q m.seqs with
  | true =>
   have hi : zAc q m.seqs < m.items.length := by rw [hlen]; exact zEl hs
   have HI : OwnE wb B 96 5 PRule.C m.iv m.items := RB.out.iAt
   obtain ⟨gi, capi, curi, hiv, hgiB, hpi, hputi⟩ := HI.part (by decide) (fun _ => rfl) hi
   have hne : gl ≠ gi := (RL.ne RB.out).2.1 rfl (by show m.iv.ownBlock = _; rw [hiv]; rfl)
   have cI : wb.cell? ⟨gl, k * 3 + 2, none⟩ = .some (.slice (some ⟨gi, 0, none⟩) m.items.length capi) := by rw [← hiv]; exact HPT.out.cell (j := 2) (by show 2 < 3; decide)
   have ht : wb.drew.there gi (zAc q m.seqs * 5) 5 := hpi.there
   have HT := hid ht
   have HX1 := hid (PRule.one x)
   have hg3 : wb.grownBy (wb.drew.setCells gi (zAc q m.seqs * 5) x.C.toList) (some gi) := zBn (zAi _ _ _ _)
   have hc3 : HasC 96 gi (zAt curi (zAc q m.seqs * 5) x.C.toList) (wb.drew.setCells gi (zAc q m.seqs * 5) x.C.toList) := by
    have hh := zBq x.C.toList (zAc q m.seqs * 5) _ wb.drew hpi.1
    rw [zGd m.items[zAc q m.seqs].C.toList x.C.toList (zAc q m.seqs * 5) curi rfl] at hh
    exact hh
   have R3 := RL.li (i' := rowE 96 5 PRule.C m.iv (zAm m.items (zAc q m.seqs) x)) RB.out (by show wb.grownBy _ m.iv.ownBlock; rw [hiv]; exact hg3) (hputi _ x hc3) (.inl rfl)
   have HP3 := hid (HPT.out.frame hg3 (fun e => hne (Option.some.inj e).symm))
   have HR3 := hid R3
   have HIV := hid hiv
   have HSQ := hid hs
   have HII := hid hi
   have hiz : ((zAc q m.seqs : Nat) : Int) < (m.items.length : Int) := by omega
   have hi0 : (0 : Int) ≤ ((zAc q m.seqs : Nat) : Int) := by omega
   clear hg3 hc3 R3 hiv hs hpi hputi HI hlen hile hgiB ht hi
   go_wp2_with fail
   go_still_tail 7, (by kernel_rfl)
   change wpList _ _ _ _ _ wb.drew
   refine wpList_store_mid rfl _ _ _ rfl gi (zAc q m.seqs * 5) x.C (by first | rfl | (simp; done)) rfl HT.out Tryz.sizePRule HX1.out ?_
   go_wp2_with fail
   generalize wb.drew.setCells gi (zAc q m.seqs * 5) x.C.toList = w3 at HP3 HR3 ⊢
   have cI3 : w3.cell? ⟨gl, k * 3 + 2, none⟩ = .some (.slice (some ⟨gi, 0, none⟩) m.items.length capi) := by rw [← HIV.out]; exact HP3.out.cell (j := 2) (by show 2 < 3; decide)
   go_wp2_with fail
   go_still (by kernel_rfl)
   go_wp2_with fail
   go_ret2
   have hR := (HR3.out.keep (zAv w3)).base
   rw [HA.out, HBq.out, ← zFv HK2.out (m := (⟨m.name, m.seqs, zAm m.items (zAc q m.seqs) x, m.sv, m.iv, m.s1, m.i1⟩ : Lm PRule)) (by rw [← HM.out]; rfl)] at hR
   have hR2 := (zDm (Ti := 3) (Te := 96) (n := 5) (cells := PRule.C) (Tl := 135) (ms := ms2) pre post k (⟨m.name, m.seqs, zAm m.items (zAc q m.seqs) x, m.sv, m.iv, m.s1, m.i1⟩ : Lm PRule) _) ▸ hR
   refine ⟨_, zAm ms2 k ⟨m.name, m.seqs, zAm m.items (zAc q m.seqs) x, m.sv, m.iv, m.s1, m.i1⟩, ⟨m.name, m.seqs, zAm m.items (zAc q m.seqs) x, m.sv, m.iv, m.s1, m.i1⟩, gi, capi, by rw [E2.out]; rfl, hR2, ?_, ?_, ?_, ?_⟩
   ·rw [E1.out, zDo]
    congr 1
    unfold zFq
    exact (if_pos HSQ.out).symm
   ·rw [E2.out]
    exact zDa HK2.out _
   ·show m.iv = .slice _ (zAm m.items (zAc q m.seqs) x).length _
    rw [zBf HII.out]
    exact HIV.out
   ·rw [E2.out]
    show zAc q m.seqs < (zAm m.items (zAc q m.seqs) x).length
    rw [zBf HII.out]
    exact HII.out
  | false =>
   have cS : wb.cell? ⟨gl, k * 3 + 1, none⟩ = .some m.sv := HPT.out.cell (j := 1) (by show 1 < 3; decide)
   have hsl : m.seqs.length ≤ 1000001 := by have h1 : m.items.length ≤ 1000001 := HL.out.items.1; omega
   have HSL := hid hsl
   have HSQ := hid hs
   have HLN := hid hlen
   have HIL := hid hile
   have B2 := (Below.refl wb.heap.size wb).alloc (Nat.le_refl _) (.cells (intC q) 3)
   have RB2 := hid (RB.out.keep B2)
   have HPT2 := hid (HPT.out.below B2)
   have hbw : B ≤ wb.heap.size := by have := RB.out.base.size; omega
   have HI4 := hid (zJq B m.sv m.seqs q (zAc q m.seqs) wb.heap.size _ RB2.out.sAt (HasC.new wb 3 (intC q)) (fun e => by have := (Orow.own.lt RB.out.sAt (g := wb.heap.size) e).1; omega) hile (by show B ≤ (wb.alloc _).heap.size; simp; omega) (by omega))
   clear hlen hile hsl hs B2
   go_wp2_with fail
   refine HI4.out.mono ?_
   rintro e w4 ⟨v4, rfl, ho4, hn4, hg4⟩
   have R4 := RL.ls (s' := rowE 3 1 intC v4 (insAt m.seqs (zAc q m.seqs) q)) RB2.out hg4 ho4 hn4
   have hP4 := HPT2.out.frame hg4 (fun e => (RL.ne RB.out).1 rfl e rfl)
   have hone4 := own_one ho4
   have hf4 : ∃ A m c, v4 = .slice A m c := by
    rcases ho4.2 with ⟨e, -⟩ | ⟨_, _, _, e, -⟩
    ·exact ⟨_, _, _, e⟩
    ·exact ⟨_, _, _, e⟩
   obtain ⟨A4, n4, c4, rfl⟩ := hf4
   have hP5 := hP4.put (cs' := (⟨m.name, insAt m.seqs (zAc q m.seqs) q, m.items, .slice A4 n4 c4, m.iv, rfl, m.i1⟩ : Lm PRule).C) (j := 1) (by show 1 < 3; decide) (.slice A4 n4 c4) rfl
   have R5 := RL.lo (o' := rowE 135 3 Lm.C (.slice (some ⟨gl, 0, none⟩) ms2.length capl) (zAm ms2 k (⟨m.name, insAt m.seqs (zAc q m.seqs) q, m.items, .slice A4 n4 c4, m.iv, rfl, m.i1⟩ : Lm PRule))) R4 (zBj w4 gl (k * 3 + 1) (.slice A4 n4 c4)) (by have h := HPut.out _ _ hP5.1; exact (by rw [← rowE_own] at h; exact h)) (.inl rfl)
   have HP5 := hid hP5
   have HR5 := hid R5
   have cS4 : w4.cell? ⟨gl, k * 3 + 1, none⟩ = .some m.sv := hP4.cell (j := 1) (by show 1 < 3; decide)
   have fz := hP4.frz
   clear R4 hP4 hP5 R5 ho4 hn4 hg4 hone4 HI4 cS
   go_wp2_with fail
   generalize w4.setCell ⟨gl, k * 3 + 1, none⟩ (.slice A4 n4 c4) = w5 at HP5 HR5 ⊢
   have cI5 : w5.cell? ⟨gl, k * 3 + 2, none⟩ = .some m.iv := HP5.out.cell (j := 2) (by show 2 < 3; decide)
   have cy0 : w5.cell? ⟨w.heap.size, 0, none⟩ = .some (.bool x.permit) := HR5.out.loc.cell 0
   have cy1 : w5.cell? ⟨w.heap.size, 1, none⟩ = .some (.int .u32 (x.pa : Int)) := HR5.out.loc.cell 1
   have cy2 : w5.cell? ⟨w.heap.size, 2, none⟩ = .some (.int .i64 x.pl) := HR5.out.loc.cell 2
   have cy3 : w5.cell? ⟨w.heap.size, 3, none⟩ = .some (.int .i64 x.min) := HR5.out.loc.cell 3
   have cy4 : w5.cell? ⟨w.heap.size, 4, none⟩ = .some (.int .i64 x.max) := HR5.out.loc.cell 4
   have cIa : ∀ o, (w5.alloc o).cell? ⟨gl, k * 3 + 2, none⟩ = .some m.iv := fun o => (World.cell?_alloc_lt w5 o ⟨gl, k * 3 + 2, none⟩ HP5.out.lt).trans cI5
   have BD : Below w5.heap.size w5 (w5.drew.alloc (.cells x.C 96)) := by
    have h := (Below.refl w5.heap.size w5.drew).alloc (Nat.le_refl _) (.cells x.C 96)
    exact ⟨h.os, h.tape, h.output, h.size, h.block⟩
   have HRD := hid (HR5.out.keep BD)
   have HPD := hid (HP5.out.below BD)
   have hbw5 : B ≤ w5.heap.size := by have := HR5.out.base.size; omega
   have hile : zAc q m.seqs ≤ m.items.length := by rw [HLN.out]; exact HIL.out
   have hil : m.items.length ≤ 1000001 := HL.out.items.1
   have HIE := hid hile
   have HI6 := hid (insPRule_any B m.iv m.items x (zAc q m.seqs) w5.heap.size _ HRD.out.iAt (HasC.new w5.drew 96 x.C) (fun e => by have := (Orow.own.lt HR5.out.iAt (g := w5.heap.size) e).1; omega) hile (by show B ≤ (w5.drew.alloc _).heap.size; have h : w5.drew.heap.size = w5.heap.size := rfl; simp; omega) (by omega))
   have HQ := hid (fun w6 (hg6 : (w5.drew.alloc (.cells x.C 96)).grownBy w6 m.iv.ownBlock) => HPD.out.frame hg6 (fun e => (RL.ne HR5.out).2.1 rfl e rfl))
   clear BD hile hil
   go_region_law (go_simp; go_at_call 227; refine HI6.out.mono ?_; rintro e w6 ⟨v6, rfl, ho6, hn6, hg6⟩; have c6 : w6.cell? ⟨gl, k * 3 + 2, none⟩ = .some m.iv := (HQ.out w6 hg6).cell (j := 2) (by show 2 < 3; decide); have f6 := (HQ.out w6 hg6).frz; obtain ⟨gi, capi, -, rfl, -⟩ := ho6.blk (by rw [zBt]; omega); have HO6 := hid ho6; have HN6 := hid hn6; have HG6 := hid hg6; clear ho6 hn6 hg6)
   all_goals
    have R6 := RL.li (i' := rowE 96 5 PRule.C (.slice (some ⟨gi, 0, none⟩) (insAt m.items (zAc q m.seqs) x).length capi) (insAt m.items (zAc q m.seqs) x)) HRD.out HG6.out HO6.out HN6.out
    have hP7 := (HQ.out w6 HG6.out).put (cs' := (⟨m.name, insAt m.seqs (zAc q m.seqs) q, insAt m.items (zAc q m.seqs) x, .slice A4 n4 c4, .slice (some ⟨gi, 0, none⟩) (insAt m.items (zAc q m.seqs) x).length capi, rfl, rfl⟩ : Lm PRule).C) (j := 2) (by show 2 < 3; decide) (.slice (some ⟨gi, 0, none⟩) (insAt m.items (zAc q m.seqs) x).length capi) rfl
    have R7 := RL.lo (o' := rowE 135 3 Lm.C (.slice (some ⟨gl, 0, none⟩) ms2.length capl) (zAm ms2 k (⟨m.name, insAt m.seqs (zAc q m.seqs) q, insAt m.items (zAc q m.seqs) x, .slice A4 n4 c4, .slice (some ⟨gi, 0, none⟩) (insAt m.items (zAc q m.seqs) x).length capi, rfl, rfl⟩ : Lm PRule))) R6 (zBj w6 gl (k * 3 + 2) (.slice (some ⟨gi, 0, none⟩) (insAt m.items (zAc q m.seqs) x).length capi)) (by have h := HPut.out _ _ hP7.1; exact h) (.inl rfl)
    have HP7 := hid hP7
    have HR7 := hid R7
    clear R6 hP7 R7 c6 f6
    generalize w6.setCell ⟨gl, k * 3 + 2, none⟩ (.slice (some ⟨gi, 0, none⟩) (insAt m.items (zAc q m.seqs) x).length capi) = w7 at HP7 HR7 ⊢
    have cI7 : w7.cell? ⟨gl, k * 3 + 2, none⟩ = .some (.slice (some ⟨gi, 0, none⟩) (insAt m.items (zAc q m.seqs) x).length capi) := HP7.out.cell (j := 2) (by show 2 < 3; decide)
    have hil7 := zBt (l := m.items) (i := zAc q m.seqs) x
    have hie := HIE.out
    have hiz : ((zAc q m.seqs : Nat) : Int) < ((insAt m.items (zAc q m.seqs) x).length : Int) := by omega
    have hi0 : (0 : Int) ≤ ((zAc q m.seqs : Nat) : Int) := by omega
    clear hil7 hie
    go_wp2_with fail
    go_still (by kernel_rfl)
    go_wp2_with fail
    go_ret2
    have hR := (HR7.out.keep (zAv w7)).base
    rw [HA.out, HBq.out] at hR
    have hR2 := (zDm (Ti := 3) (Te := 96) (n := 5) (cells := PRule.C) (Tl := 135) (ms := ms2) pre post k (⟨m.name, insAt m.seqs (zAc q m.seqs) q, insAt m.items (zAc q m.seqs) x, .slice A4 n4 c4, .slice (some ⟨gi, 0, none⟩) (insAt m.items (zAc q m.seqs) x).length capi, rfl, rfl⟩ : Lm PRule) _) ▸ hR
    refine ⟨_, zAm ms2 k (⟨m.name, insAt m.seqs (zAc q m.seqs) q, insAt m.items (zAc q m.seqs) x, .slice A4 n4 c4, .slice (some ⟨gi, 0, none⟩) (insAt m.items (zAc q m.seqs) x).length capi, rfl, rfl⟩ : Lm PRule), (⟨m.name, insAt m.seqs (zAc q m.seqs) q, insAt m.items (zAc q m.seqs) x, .slice A4 n4 c4, .slice (some ⟨gi, 0, none⟩) (insAt m.items (zAc q m.seqs) x).length capi, rfl, rfl⟩ : Lm PRule), gi, capi, by rw [E2.out]; rfl, hR2, ?_, ?_, ?_, ?_⟩
    ·rw [E1.out, zDo]
     congr 1
     unfold zFq
     exact (if_neg (by rw [show zDq q m.ls.seqs = false from HSQ.out]; decide)).symm
    ·rw [E2.out]
     exact zDa HK2.out _
    ·rfl
    ·rw [E2.out]
     show zAc q m.seqs < (insAt m.items (zAc q m.seqs) x).length
     rw [zBt]
     have := HIE.out
     omega
end
section
variable {E : TypeId} {g b B : Nat} {w0 : World} {cs : Array Value} {pre post : List Orow}
theorem Tryz.infoPCl : (Tryz.prog.info? 137).map (fun i => (i.zero.map (fun z => z.cells.size), i.size, i.bytes)) = some (some 3, 3, 64) := by kernel_rfl
theorem putCl_any (v : Value) (ms : List (Lm Cl)) (name : List UInt8) (q : Int) (x : Cl) (p : Ps) (w : World) (h : RS E 131 g b B w0 cs (pre ++ zAq 137 3 101 7 Cl.C v ms ++ post) p w) (hk : LsOk Cl.fit 1000000 (ms.map Lm.ls)) (hx : x.fit) :
  Calls Tryz.prog 176 #[v, .string (str name), .int .i64 q, .agg x.C] w (PutPost E 131 g b B w0 cs pre post 137 3 101 7 Cl.C (putL name q x (ms.map Lm.ls)) (putAt name q (ms.map Lm.ls)) p) := by
 have hml : ms.length ≤ 1000000 := by have := hk.1; simpa using this
 have HO0 : OwnE w B 137 3 Lm.C v ms := h.own.1 (rowE 137 3 Lm.C v ms) (by simp [zAq])
 obtain ⟨A0, c0, e0, -⟩ := HO0.slv
 subst e0
 have hw0 := h.size
 have hbB := h.bB
 have K0 : RL E 131 g b B w0 cs (pre ++ zAq 137 3 101 7 Cl.C (.slice A0 ms.length c0) ms ++ post) p 101 w.heap.size x.C (w.alloc (.cells x.C 101)) := RL.start h (HasC.new _ _ _) (World.grownBy.refl _ _)
 have R0 := hid K0
 have HOa : OwnE (w.alloc (.cells x.C 101)) B 137 3 Lm.C (.slice A0 ms.length c0) ms := K0.base.own.1 (rowE 137 3 Lm.C (.slice A0 ms.length c0) ms) (by simp [zAq])
 have HS := hid HOa.slv
 have HK := hid hk
 have HX := hid hx
 have HF := hid (zHs name ms)
 clear K0 hk hx h HO0 HOa
 go_enter Tryz.func176, Tryz.ntmps176
 go_wp2_with fail
 refine (findCl_any _ ms name _ HS.out).mono ?_
 rintro e w1 ⟨rfl, hb1⟩
 have R1 := hid (R0.out.keep hb1)
 clear hb1 HS
 generalize idxF (fun m => m.name == name) ms 0 = kk at HF ⊢
 go_upto_if 18 with (fail)
 go_cut [0, 10] (fun l0 k0 wx => PutMid E 131 g b B w0 cs pre post 137 3 101 7 Cl.C Cl.fit x name q (ms.map Lm.ls) p w.heap.size l0 k0 wx)
 case first =>
  rcases HF.out with ⟨rfl, e2⟩ | ⟨k, hkl, rfl, e2⟩
  ·have HO1 : OwnE w1 B 137 3 Lm.C (.slice A0 ms.length c0) ms := R1.out.base.own.1 (rowE 137 3 Lm.C (.slice A0 ms.length c0) ms) (by simp [zAq])
   obtain ⟨A5, m5, c5, w5, hr, ho5, hg5, hn5⟩ := HO1.push (P := Tryz.prog) (by have := R1.out.base.size; omega) Tryz.underlying83 Tryz.infoPCl (by decide) (fun _ => rfl) (Lm.new name) (Lm.one _) (by omega) (by decide) 83
   have R5 : RL E 131 g b B w0 cs (pre ++ rowE 137 3 Lm.C (.slice A5 m5 c5) (ms ++ [Lm.new name]) :: (ms.flatMap (Lm.rows 3 101 7 Cl.C) ++ post)) p 101 w.heap.size x.C w5 := RL.row (r := rowE 137 3 Lm.C (.slice A0 ms.length c0) ms) (r' := rowE 137 3 Lm.C (.slice A5 m5 c5) (ms ++ [Lm.new name])) (by have := R1.out; unfold zAq at this; simpa using this) hg5 ho5 hn5
   have R6 : RL E 131 g b B w0 cs (pre ++ zAq 137 3 101 7 Cl.C (.slice A5 m5 c5) (ms ++ [Lm.new name]) ++ post) p 101 w.heap.size x.C w5 := by
    have := RL.more (pre := pre ++ rowE 137 3 Lm.C (.slice A5 m5 c5) (ms ++ [Lm.new name]) :: ms.flatMap (Lm.rows 3 101 7 Cl.C)) (post := post) (by simpa using R5) (l := Lm.rows 3 101 7 Cl.C (Lm.new name)) (fun r hr => by
     simp only [Lm.rows, List.mem_cons, List.not_mem_nil, or_false] at hr
     rcases hr with rfl | rfl
     ·exact ⟨OwnE.nil (cells := intC), rfl⟩
     ·exact ⟨OwnE.nil (cells := Cl.C), rfl⟩)
    unfold zAq
    simpa using this
   have HR := hid hr
   have H6 := hid R6
   have E2 := hid e2
   clear hr ho5 hg5 hn5 R5 R6 HO1 e2
   go_wp2_with (at_builtin; refine Lib.wpList_append_run _ rfl _ _ _ _ rfl _ _ rfl rfl _ _ HR.out ?_)
   go_meet
   obtain ⟨p1, p2⟩ := putL_new name q x E2.out
   exact ⟨_, ms ++ [Lm.new name], ms.length, by simp, rfl, rfl, H6.out, by rw [p1]; simp, by rw [p2]; simp, by simpa using (⟨rfl, .nil, List.Pairwise.nil⟩ : LsOne Cl.fit 1000001 (Lm.new name).ls)⟩
  ·have hk0 : ¬ ((k : Int) < 0) := by omega
   have E2 := hid e2
   clear e2
   go_wp2_with fail
   go_meet
   obtain ⟨p1, p2⟩ := putL_at hkl name q x E2.out
   exact ⟨_, ms, k, hkl, rfl, rfl, R1.out, p1, p2, (HK.out.2 _ (List.mem_map_of_mem (List.getElem_mem hkl))).up (by decide)⟩
 case rest =>
  obtain ⟨v2, ms2, k, hk2, rfl, rfl, R, hq1, hq2, hq3⟩ := hcut
  rw [zFt pre post hk2] at R
  obtain ⟨m, hm⟩ : ∃ m, m = ms2[k] := ⟨_, rfl⟩
  rw [← hm] at R hq1 hq2 hq3
  have E1 := hid hq1
  have E2 := hid hq2
  have HL := hid hq3
  obtain ⟨A, hA⟩ : ∃ A, A = (ms2.take k).flatMap (Lm.rows 3 101 7 Cl.C) := ⟨_, rfl⟩
  obtain ⟨Bq, hBq⟩ : ∃ A, A = (ms2.drop (k + 1)).flatMap (Lm.rows 3 101 7 Cl.C) := ⟨_, rfl⟩
  rw [← hA, ← hBq] at R
  have HO : OwnE wc B 137 3 Lm.C _ ms2 := R.oAt
  obtain ⟨gl, capl, curl, rfl, hglB, hpt, hput⟩ := HO.part (by decide) (fun _ => rfl) hk2
  rw [← hm] at hpt
  have HB := hid (zEu B m.sv m.seqs q wc R.sAt hq3.asc (by have h1 := hq3.items.1; have h2 := hq3.len; have h3 : m.items.length ≤ 1000001 := h1; have h4 : m.items.length = m.seqs.length := h2; omega))
  have RC := hid R
  have HPC := hid hpt
  have HPut := hid hput
  have HA := hid hA
  have HBq := hid hBq
  have HM := hid hm
  have hkz : (k : Int) < (ms2.length : Int) := by omega
  have hk0 : (0 : Int) ≤ (k : Int) := by omega
  have cS : wc.cell? ⟨gl, k * 3 + 1, none⟩ = .some m.sv := hpt.cell (j := 1) (by show 1 < 3; decide)
  clear hq1 hq2 hq3 R hpt hput hA hBq hm HO
  go_wp2_with fail
  refine HB.out.mono ?_
  rintro e wb ⟨rfl, hb2⟩
  have RB := hid (RC.out.keep hb2)
  have HPT := hid (HPC.out.below hb2)
  have HK2 := hid hk2
  clear hb2 cS HB
  have hlen : m.items.length = m.seqs.length := HL.out.len
  have hile := zEg q m.seqs
  have cx0 : wb.cell? ⟨w.heap.size, 0, none⟩ = .some (.bool x.permit) := RB.out.loc.cell 0
  have cx1 : wb.cell? ⟨w.heap.size, 1, none⟩ = .some (strV x.list) := RB.out.loc.cell 1
  have cx2 : wb.cell? ⟨w.heap.size, 2, none⟩ = .some (.int .i64 x.tag) := RB.out.loc.cell 2
  have cx3 : wb.cell? ⟨w.heap.size, 3, none⟩ = .some (.int .i64 x.setM) := RB.out.loc.cell 3
  have cx4 : wb.cell? ⟨w.heap.size, 4, none⟩ = .some (.int .i64 x.setT) := RB.out.loc.cell 4
  have cx5 : wb.cell? ⟨w.heap.size, 5, none⟩ = .some (.int .i64 x.setP) := RB.out.loc.cell 5
  have cx6 : wb.cell? ⟨w.heap.size, 6, none⟩ = .some (.int .i64 x.prep) := RB.out.loc.cell 6
  cases hs : zDq q m.seqs with
  | true =>
   have hi : zAc q m.seqs < m.items.length := by rw [hlen]; exact zEl hs
   have HI : OwnE wb B 101 7 Cl.C m.iv m.items := RB.out.iAt
   obtain ⟨gi, capi, curi, hiv, hgiB, hpi, hputi⟩ := HI.part (by decide) (fun _ => rfl) hi
   have hne : gl ≠ gi := (RL.ne RB.out).2.1 rfl (by show m.iv.ownBlock = _; rw [hiv]; rfl)
   have cI : wb.cell? ⟨gl, k * 3 + 2, none⟩ = .some (.slice (some ⟨gi, 0, none⟩) m.items.length capi) := by rw [← hiv]; exact HPT.out.cell (j := 2) (by show 2 < 3; decide)
   have ht : wb.drew.there gi (zAc q m.seqs * 7) 7 := hpi.there
   have HT := hid ht
   have HX1 := hid (Cl.one x)
   have hg3 : wb.grownBy (wb.drew.setCells gi (zAc q m.seqs * 7) x.C.toList) (some gi) := zBn (zAi _ _ _ _)
   have hc3 : HasC 101 gi (zAt curi (zAc q m.seqs * 7) x.C.toList) (wb.drew.setCells gi (zAc q m.seqs * 7) x.C.toList) := by
    have hh := zBq x.C.toList (zAc q m.seqs * 7) _ wb.drew hpi.1
    rw [zGd m.items[zAc q m.seqs].C.toList x.C.toList (zAc q m.seqs * 7) curi rfl] at hh
    exact hh
   have R3 := RL.li (i' := rowE 101 7 Cl.C m.iv (zAm m.items (zAc q m.seqs) x)) RB.out (by show wb.grownBy _ m.iv.ownBlock; rw [hiv]; exact hg3) (hputi _ x hc3) (.inl rfl)
   have HP3 := hid (HPT.out.frame hg3 (fun e => hne (Option.some.inj e).symm))
   have HR3 := hid R3
   have HIV := hid hiv
   have HSQ := hid hs
   have HII := hid hi
   have hiz : ((zAc q m.seqs : Nat) : Int) < (m.items.length : Int) := by omega
   have hi0 : (0 : Int) ≤ ((zAc q m.seqs : Nat) : Int) := by omega
   clear hg3 hc3 R3 hiv hs hpi hputi HI hlen hile hgiB ht hi
   go_wp2_with fail
   go_still_tail 7, (by kernel_rfl)
   change wpList _ _ _ _ _ wb.drew
   refine wpList_store_mid rfl _ _ _ rfl gi (zAc q m.seqs * 7) x.C (by first | rfl | (simp; done)) rfl HT.out Tryz.sizeCl HX1.out ?_
   go_wp2_with fail
   generalize wb.drew.setCells gi (zAc q m.seqs * 7) x.C.toList = w3 at HP3 HR3 ⊢
   have cI3 : w3.cell? ⟨gl, k * 3 + 2, none⟩ = .some (.slice (some ⟨gi, 0, none⟩) m.items.length capi) := by rw [← HIV.out]; exact HP3.out.cell (j := 2) (by show 2 < 3; decide)
   go_wp2_with fail
   go_still (by kernel_rfl)
   go_wp2_with fail
   go_ret2
   have hR := (HR3.out.keep (zAv w3)).base
   rw [HA.out, HBq.out, ← zFv HK2.out (m := (⟨m.name, m.seqs, zAm m.items (zAc q m.seqs) x, m.sv, m.iv, m.s1, m.i1⟩ : Lm Cl)) (by rw [← HM.out]; rfl)] at hR
   have hR2 := (zDm (Ti := 3) (Te := 101) (n := 7) (cells := Cl.C) (Tl := 137) (ms := ms2) pre post k (⟨m.name, m.seqs, zAm m.items (zAc q m.seqs) x, m.sv, m.iv, m.s1, m.i1⟩ : Lm Cl) _) ▸ hR
   refine ⟨_, zAm ms2 k ⟨m.name, m.seqs, zAm m.items (zAc q m.seqs) x, m.sv, m.iv, m.s1, m.i1⟩, ⟨m.name, m.seqs, zAm m.items (zAc q m.seqs) x, m.sv, m.iv, m.s1, m.i1⟩, gi, capi, by rw [E2.out]; rfl, hR2, ?_, ?_, ?_, ?_⟩
   ·rw [E1.out, zDo]
    congr 1
    unfold zFq
    exact (if_pos HSQ.out).symm
   ·rw [E2.out]
    exact zDa HK2.out _
   ·show m.iv = .slice _ (zAm m.items (zAc q m.seqs) x).length _
    rw [zBf HII.out]
    exact HIV.out
   ·rw [E2.out]
    show zAc q m.seqs < (zAm m.items (zAc q m.seqs) x).length
    rw [zBf HII.out]
    exact HII.out
  | false =>
   have cS : wb.cell? ⟨gl, k * 3 + 1, none⟩ = .some m.sv := HPT.out.cell (j := 1) (by show 1 < 3; decide)
   have hsl : m.seqs.length ≤ 1000001 := by have h1 : m.items.length ≤ 1000001 := HL.out.items.1; omega
   have HSL := hid hsl
   have HSQ := hid hs
   have HLN := hid hlen
   have HIL := hid hile
   have B2 := (Below.refl wb.heap.size wb).alloc (Nat.le_refl _) (.cells (intC q) 3)
   have RB2 := hid (RB.out.keep B2)
   have HPT2 := hid (HPT.out.below B2)
   have hbw : B ≤ wb.heap.size := by have := RB.out.base.size; omega
   have HI4 := hid (zJq B m.sv m.seqs q (zAc q m.seqs) wb.heap.size _ RB2.out.sAt (HasC.new wb 3 (intC q)) (fun e => by have := (Orow.own.lt RB.out.sAt (g := wb.heap.size) e).1; omega) hile (by show B ≤ (wb.alloc _).heap.size; simp; omega) (by omega))
   clear hlen hile hsl hs B2
   go_wp2_with fail
   refine HI4.out.mono ?_
   rintro e w4 ⟨v4, rfl, ho4, hn4, hg4⟩
   have R4 := RL.ls (s' := rowE 3 1 intC v4 (insAt m.seqs (zAc q m.seqs) q)) RB2.out hg4 ho4 hn4
   have hP4 := HPT2.out.frame hg4 (fun e => (RL.ne RB.out).1 rfl e rfl)
   have hone4 := own_one ho4
   have hf4 : ∃ A m c, v4 = .slice A m c := by
    rcases ho4.2 with ⟨e, -⟩ | ⟨_, _, _, e, -⟩
    ·exact ⟨_, _, _, e⟩
    ·exact ⟨_, _, _, e⟩
   obtain ⟨A4, n4, c4, rfl⟩ := hf4
   have hP5 := hP4.put (cs' := (⟨m.name, insAt m.seqs (zAc q m.seqs) q, m.items, .slice A4 n4 c4, m.iv, rfl, m.i1⟩ : Lm Cl).C) (j := 1) (by show 1 < 3; decide) (.slice A4 n4 c4) rfl
   have R5 := RL.lo (o' := rowE 137 3 Lm.C (.slice (some ⟨gl, 0, none⟩) ms2.length capl) (zAm ms2 k (⟨m.name, insAt m.seqs (zAc q m.seqs) q, m.items, .slice A4 n4 c4, m.iv, rfl, m.i1⟩ : Lm Cl))) R4 (zBj w4 gl (k * 3 + 1) (.slice A4 n4 c4)) (by have h := HPut.out _ _ hP5.1; exact (by rw [← rowE_own] at h; exact h)) (.inl rfl)
   have HP5 := hid hP5
   have HR5 := hid R5
   have cS4 : w4.cell? ⟨gl, k * 3 + 1, none⟩ = .some m.sv := hP4.cell (j := 1) (by show 1 < 3; decide)
   have fz := hP4.frz
   clear R4 hP4 hP5 R5 ho4 hn4 hg4 hone4 HI4 cS
   go_wp2_with fail
   generalize w4.setCell ⟨gl, k * 3 + 1, none⟩ (.slice A4 n4 c4) = w5 at HP5 HR5 ⊢
   have cI5 : w5.cell? ⟨gl, k * 3 + 2, none⟩ = .some m.iv := HP5.out.cell (j := 2) (by show 2 < 3; decide)
   have cy0 : w5.cell? ⟨w.heap.size, 0, none⟩ = .some (.bool x.permit) := HR5.out.loc.cell 0
   have cy1 : w5.cell? ⟨w.heap.size, 1, none⟩ = .some (strV x.list) := HR5.out.loc.cell 1
   have cy2 : w5.cell? ⟨w.heap.size, 2, none⟩ = .some (.int .i64 x.tag) := HR5.out.loc.cell 2
   have cy3 : w5.cell? ⟨w.heap.size, 3, none⟩ = .some (.int .i64 x.setM) := HR5.out.loc.cell 3
   have cy4 : w5.cell? ⟨w.heap.size, 4, none⟩ = .some (.int .i64 x.setT) := HR5.out.loc.cell 4
   have cy5 : w5.cell? ⟨w.heap.size, 5, none⟩ = .some (.int .i64 x.setP) := HR5.out.loc.cell 5
   have cy6 : w5.cell? ⟨w.heap.size, 6, none⟩ = .some (.int .i64 x.prep) := HR5.out.loc.cell 6
   have cIa : ∀ o, (w5.alloc o).cell? ⟨gl, k * 3 + 2, none⟩ = .some m.iv := fun o => (World.cell?_alloc_lt w5 o ⟨gl, k * 3 + 2, none⟩ HP5.out.lt).trans cI5
   have BD : Below w5.heap.size w5 (w5.drew.alloc (.cells x.C 101)) := by
    have h := (Below.refl w5.heap.size w5.drew).alloc (Nat.le_refl _) (.cells x.C 101)
    exact ⟨h.os, h.tape, h.output, h.size, h.block⟩
   have HRD := hid (HR5.out.keep BD)
   have HPD := hid (HP5.out.below BD)
   have hbw5 : B ≤ w5.heap.size := by have := HR5.out.base.size; omega
   have hile : zAc q m.seqs ≤ m.items.length := by rw [HLN.out]; exact HIL.out
   have hil : m.items.length ≤ 1000001 := HL.out.items.1
   have HIE := hid hile
   have HI6 := hid (insCl_any B m.iv m.items x (zAc q m.seqs) w5.heap.size _ HRD.out.iAt (HasC.new w5.drew 101 x.C) (fun e => by have := (Orow.own.lt HR5.out.iAt (g := w5.heap.size) e).1; omega) hile (by show B ≤ (w5.drew.alloc _).heap.size; have h : w5.drew.heap.size = w5.heap.size := rfl; simp; omega) (by omega))
   have HQ := hid (fun w6 (hg6 : (w5.drew.alloc (.cells x.C 101)).grownBy w6 m.iv.ownBlock) => HPD.out.frame hg6 (fun e => (RL.ne HR5.out).2.1 rfl e rfl))
   clear BD hile hil
   go_region_law (go_simp; go_at_call 228; refine HI6.out.mono ?_; rintro e w6 ⟨v6, rfl, ho6, hn6, hg6⟩; have c6 : w6.cell? ⟨gl, k * 3 + 2, none⟩ = .some m.iv := (HQ.out w6 hg6).cell (j := 2) (by show 2 < 3; decide); have f6 := (HQ.out w6 hg6).frz; obtain ⟨gi, capi, -, rfl, -⟩ := ho6.blk (by rw [zBt]; omega); have HO6 := hid ho6; have HN6 := hid hn6; have HG6 := hid hg6; clear ho6 hn6 hg6)
   all_goals
    have R6 := RL.li (i' := rowE 101 7 Cl.C (.slice (some ⟨gi, 0, none⟩) (insAt m.items (zAc q m.seqs) x).length capi) (insAt m.items (zAc q m.seqs) x)) HRD.out HG6.out HO6.out HN6.out
    have hP7 := (HQ.out w6 HG6.out).put (cs' := (⟨m.name, insAt m.seqs (zAc q m.seqs) q, insAt m.items (zAc q m.seqs) x, .slice A4 n4 c4, .slice (some ⟨gi, 0, none⟩) (insAt m.items (zAc q m.seqs) x).length capi, rfl, rfl⟩ : Lm Cl).C) (j := 2) (by show 2 < 3; decide) (.slice (some ⟨gi, 0, none⟩) (insAt m.items (zAc q m.seqs) x).length capi) rfl
    have R7 := RL.lo (o' := rowE 137 3 Lm.C (.slice (some ⟨gl, 0, none⟩) ms2.length capl) (zAm ms2 k (⟨m.name, insAt m.seqs (zAc q m.seqs) q, insAt m.items (zAc q m.seqs) x, .slice A4 n4 c4, .slice (some ⟨gi, 0, none⟩) (insAt m.items (zAc q m.seqs) x).length capi, rfl, rfl⟩ : Lm Cl))) R6 (zBj w6 gl (k * 3 + 2) (.slice (some ⟨gi, 0, none⟩) (insAt m.items (zAc q m.seqs) x).length capi)) (by have h := HPut.out _ _ hP7.1; exact h) (.inl rfl)
    have HP7 := hid hP7
    have HR7 := hid R7
    clear R6 hP7 R7 c6 f6
    generalize w6.setCell ⟨gl, k * 3 + 2, none⟩ (.slice (some ⟨gi, 0, none⟩) (insAt m.items (zAc q m.seqs) x).length capi) = w7 at HP7 HR7 ⊢
    have cI7 : w7.cell? ⟨gl, k * 3 + 2, none⟩ = .some (.slice (some ⟨gi, 0, none⟩) (insAt m.items (zAc q m.seqs) x).length capi) := HP7.out.cell (j := 2) (by show 2 < 3; decide)
    have hil7 := zBt (l := m.items) (i := zAc q m.seqs) x
    have hie := HIE.out
    have hiz : ((zAc q m.seqs : Nat) : Int) < ((insAt m.items (zAc q m.seqs) x).length : Int) := by omega
    have hi0 : (0 : Int) ≤ ((zAc q m.seqs : Nat) : Int) := by omega
    clear hil7 hie
    go_wp2_with fail
    go_still (by kernel_rfl)
    go_wp2_with fail
    go_ret2
    have hR := (HR7.out.keep (zAv w7)).base
    rw [HA.out, HBq.out] at hR
    have hR2 := (zDm (Ti := 3) (Te := 101) (n := 7) (cells := Cl.C) (Tl := 137) (ms := ms2) pre post k (⟨m.name, insAt m.seqs (zAc q m.seqs) q, insAt m.items (zAc q m.seqs) x, .slice A4 n4 c4, .slice (some ⟨gi, 0, none⟩) (insAt m.items (zAc q m.seqs) x).length capi, rfl, rfl⟩ : Lm Cl) _) ▸ hR
    refine ⟨_, zAm ms2 k (⟨m.name, insAt m.seqs (zAc q m.seqs) q, insAt m.items (zAc q m.seqs) x, .slice A4 n4 c4, .slice (some ⟨gi, 0, none⟩) (insAt m.items (zAc q m.seqs) x).length capi, rfl, rfl⟩ : Lm Cl), (⟨m.name, insAt m.seqs (zAc q m.seqs) q, insAt m.items (zAc q m.seqs) x, .slice A4 n4 c4, .slice (some ⟨gi, 0, none⟩) (insAt m.items (zAc q m.seqs) x).length capi, rfl, rfl⟩ : Lm Cl), gi, capi, by rw [E2.out]; rfl, hR2, ?_, ?_, ?_, ?_⟩
    ·rw [E1.out, zDo]
     congr 1
     unfold zFq
     exact (if_neg (by rw [show zDq q m.ls.seqs = false from HSQ.out]; decide)).symm
    ·rw [E2.out]
     exact zDa HK2.out _
    ·rfl
    ·rw [E2.out]
     show zAc q m.seqs < (insAt m.items (zAc q m.seqs) x).length
     rw [zBt]
     have := HIE.out
     omega
end
section
variable {E : TypeId} {g b B : Nat} {w0 : World} {cs : Array Value} {pre post : List Orow}
theorem Tryz.infoPRu : (Tryz.prog.info? 139).map (fun i => (i.zero.map (fun z => z.cells.size), i.size, i.bytes)) = some (some 3, 3, 64) := by kernel_rfl
theorem zJn (v : Value) (ms : List (Lm Ru)) (name : List UInt8) (q : Int) (x : Ru) (p : Ps) (w : World) (h : RS E 131 g b B w0 cs (pre ++ zAq 139 3 110 10 Ru.C v ms ++ post) p w) (hk : LsOk Ru.fit 1000000 (ms.map Lm.ls)) (hx : x.fit) :
  Calls Tryz.prog 180 #[v, .string (str name), .int .i64 q, .agg x.C] w (PutPost E 131 g b B w0 cs pre post 139 3 110 10 Ru.C (putL name q x (ms.map Lm.ls)) (putAt name q (ms.map Lm.ls)) p) := by
 have hml : ms.length ≤ 1000000 := by have := hk.1; simpa using this
 have HO0 : OwnE w B 139 3 Lm.C v ms := h.own.1 (rowE 139 3 Lm.C v ms) (by simp [zAq])
 obtain ⟨A0, c0, e0, -⟩ := HO0.slv
 subst e0
 have hw0 := h.size
 have hbB := h.bB
 have K0 : RL E 131 g b B w0 cs (pre ++ zAq 139 3 110 10 Ru.C (.slice A0 ms.length c0) ms ++ post) p 110 w.heap.size x.C (w.alloc (.cells x.C 110)) := RL.start h (HasC.new _ _ _) (World.grownBy.refl _ _)
 have R0 := hid K0
 have HOa : OwnE (w.alloc (.cells x.C 110)) B 139 3 Lm.C (.slice A0 ms.length c0) ms := K0.base.own.1 (rowE 139 3 Lm.C (.slice A0 ms.length c0) ms) (by simp [zAq])
 have HS := hid HOa.slv
 have HK := hid hk
 have HX := hid hx
 have HF := hid (zHs name ms)
 clear K0 hk hx h HO0 HOa
 go_enter Tryz.func180, Tryz.ntmps180
 go_wp2_with fail
 refine (findRu_any _ ms name _ HS.out).mono ?_
 rintro e w1 ⟨rfl, hb1⟩
 have R1 := hid (R0.out.keep hb1)
 clear hb1 HS
 generalize idxF (fun m => m.name == name) ms 0 = kk at HF ⊢
 go_upto_if 18 with (fail)
 go_cut [0, 10] (fun l0 k0 wx => PutMid E 131 g b B w0 cs pre post 139 3 110 10 Ru.C Ru.fit x name q (ms.map Lm.ls) p w.heap.size l0 k0 wx)
 case first =>
  rcases HF.out with ⟨rfl, e2⟩ | ⟨k, hkl, rfl, e2⟩
  ·have HO1 : OwnE w1 B 139 3 Lm.C (.slice A0 ms.length c0) ms := R1.out.base.own.1 (rowE 139 3 Lm.C (.slice A0 ms.length c0) ms) (by simp [zAq])
   obtain ⟨A5, m5, c5, w5, hr, ho5, hg5, hn5⟩ := HO1.push (P := Tryz.prog) (by have := R1.out.base.size; omega) Tryz.underlying84 Tryz.infoPRu (by decide) (fun _ => rfl) (Lm.new name) (Lm.one _) (by omega) (by decide) 84
   have R5 : RL E 131 g b B w0 cs (pre ++ rowE 139 3 Lm.C (.slice A5 m5 c5) (ms ++ [Lm.new name]) :: (ms.flatMap (Lm.rows 3 110 10 Ru.C) ++ post)) p 110 w.heap.size x.C w5 := RL.row (r := rowE 139 3 Lm.C (.slice A0 ms.length c0) ms) (r' := rowE 139 3 Lm.C (.slice A5 m5 c5) (ms ++ [Lm.new name])) (by have := R1.out; unfold zAq at this; simpa using this) hg5 ho5 hn5
   have R6 : RL E 131 g b B w0 cs (pre ++ zAq 139 3 110 10 Ru.C (.slice A5 m5 c5) (ms ++ [Lm.new name]) ++ post) p 110 w.heap.size x.C w5 := by
    have := RL.more (pre := pre ++ rowE 139 3 Lm.C (.slice A5 m5 c5) (ms ++ [Lm.new name]) :: ms.flatMap (Lm.rows 3 110 10 Ru.C)) (post := post) (by simpa using R5) (l := Lm.rows 3 110 10 Ru.C (Lm.new name)) (fun r hr => by
     simp only [Lm.rows, List.mem_cons, List.not_mem_nil, or_false] at hr
     rcases hr with rfl | rfl
     ·exact ⟨OwnE.nil (cells := intC), rfl⟩
     ·exact ⟨OwnE.nil (cells := Ru.C), rfl⟩)
    unfold zAq
    simpa using this
   have HR := hid hr
   have H6 := hid R6
   have E2 := hid e2
   clear hr ho5 hg5 hn5 R5 R6 HO1 e2
   go_wp2_with (at_builtin; refine Lib.wpList_append_run _ rfl _ _ _ _ rfl _ _ rfl rfl _ _ HR.out ?_)
   go_meet
   obtain ⟨p1, p2⟩ := putL_new name q x E2.out
   exact ⟨_, ms ++ [Lm.new name], ms.length, by simp, rfl, rfl, H6.out, by rw [p1]; simp, by rw [p2]; simp, by simpa using (⟨rfl, .nil, List.Pairwise.nil⟩ : LsOne Ru.fit 1000001 (Lm.new name).ls)⟩
  ·have hk0 : ¬ ((k : Int) < 0) := by omega
   have E2 := hid e2
   clear e2
   go_wp2_with fail
   go_meet
   obtain ⟨p1, p2⟩ := putL_at hkl name q x E2.out
   exact ⟨_, ms, k, hkl, rfl, rfl, R1.out, p1, p2, (HK.out.2 _ (List.mem_map_of_mem (List.getElem_mem hkl))).up (by decide)⟩
 case rest =>
  obtain ⟨v2, ms2, k, hk2, rfl, rfl, R, hq1, hq2, hq3⟩ := hcut
  rw [zFt pre post hk2] at R
  obtain ⟨m, hm⟩ : ∃ m, m = ms2[k] := ⟨_, rfl⟩
  rw [← hm] at R hq1 hq2 hq3
  have E1 := hid hq1
  have E2 := hid hq2
  have HL := hid hq3
  obtain ⟨A, hA⟩ : ∃ A, A = (ms2.take k).flatMap (Lm.rows 3 110 10 Ru.C) := ⟨_, rfl⟩
  obtain ⟨Bq, hBq⟩ : ∃ A, A = (ms2.drop (k + 1)).flatMap (Lm.rows 3 110 10 Ru.C) := ⟨_, rfl⟩
  rw [← hA, ← hBq] at R
  have HO : OwnE wc B 139 3 Lm.C _ ms2 := R.oAt
  obtain ⟨gl, capl, curl, rfl, hglB, hpt, hput⟩ := HO.part (by decide) (fun _ => rfl) hk2
  rw [← hm] at hpt
  have HB := hid (zEu B m.sv m.seqs q wc R.sAt hq3.asc (by have h1 := hq3.items.1; have h2 := hq3.len; have h3 : m.items.length ≤ 1000001 := h1; have h4 : m.items.length = m.seqs.length := h2; omega))
  have RC := hid R
  have HPC := hid hpt
  have HPut := hid hput
  have HA := hid hA
  have HBq := hid hBq
  have HM := hid hm
  have hkz : (k : Int) < (ms2.length : Int) := by omega
  have hk0 : (0 : Int) ≤ (k : Int) := by omega
  have cS : wc.cell? ⟨gl, k * 3 + 1, none⟩ = .some m.sv := hpt.cell (j := 1) (by show 1 < 3; decide)
  clear hq1 hq2 hq3 R hpt hput hA hBq hm HO
  go_wp2_with fail
  refine HB.out.mono ?_
  rintro e wb ⟨rfl, hb2⟩
  have RB := hid (RC.out.keep hb2)
  have HPT := hid (HPC.out.below hb2)
  have HK2 := hid hk2
  clear hb2 cS HB
  have hlen : m.items.length = m.seqs.length := HL.out.len
  have hile := zEg q m.seqs
  have cx0 : wb.cell? ⟨w.heap.size, 0, none⟩ = .some (.bool x.permit) := RB.out.loc.cell 0
  have cx1 : wb.cell? ⟨w.heap.size, 1, none⟩ = .some (.int .i64 x.proto) := RB.out.loc.cell 1
  have cx2 : wb.cell? ⟨w.heap.size, 2, none⟩ = .some (.int .u32 (x.sa : Int)) := RB.out.loc.cell 2
  have cx3 : wb.cell? ⟨w.heap.size, 3, none⟩ = .some (.int .u32 (x.sm : Int)) := RB.out.loc.cell 3
  have cx4 : wb.cell? ⟨w.heap.size, 4, none⟩ = .some (.int .u32 (x.da : Int)) := RB.out.loc.cell 4
  have cx5 : wb.cell? ⟨w.heap.size, 5, none⟩ = .some (.int .u32 (x.dm : Int)) := RB.out.loc.cell 5
  have cx6 : wb.cell? ⟨w.heap.size, 6, none⟩ = .some (.int .i64 x.slo) := RB.out.loc.cell 6
  have cx7 : wb.cell? ⟨w.heap.size, 7, none⟩ = .some (.int .i64 x.shi) := RB.out.loc.cell 7
  have cx8 : wb.cell? ⟨w.heap.size, 8, none⟩ = .some (.int .i64 x.dlo) := RB.out.loc.cell 8
  have cx9 : wb.cell? ⟨w.heap.size, 9, none⟩ = .some (.int .i64 x.dhi) := RB.out.loc.cell 9
  cases hs : zDq q m.seqs with
  | true =>
   have hi : zAc q m.seqs < m.items.length := by rw [hlen]; exact zEl hs
   have HI : OwnE wb B 110 10 Ru.C m.iv m.items := RB.out.iAt
   obtain ⟨gi, capi, curi, hiv, hgiB, hpi, hputi⟩ := HI.part (by decide) (fun _ => rfl) hi
   have hne : gl ≠ gi := (RL.ne RB.out).2.1 rfl (by show m.iv.ownBlock = _; rw [hiv]; rfl)
   have cI : wb.cell? ⟨gl, k * 3 + 2, none⟩ = .some (.slice (some ⟨gi, 0, none⟩) m.items.length capi) := by rw [← hiv]; exact HPT.out.cell (j := 2) (by show 2 < 3; decide)
   have ht : wb.drew.there gi (zAc q m.seqs * 10) 10 := hpi.there
   have HT := hid ht
   have HX1 := hid (Ru.one x)
   have hg3 : wb.grownBy (wb.drew.setCells gi (zAc q m.seqs * 10) x.C.toList) (some gi) := zBn (zAi _ _ _ _)
   have hc3 : HasC 110 gi (zAt curi (zAc q m.seqs * 10) x.C.toList) (wb.drew.setCells gi (zAc q m.seqs * 10) x.C.toList) := by
    have hh := zBq x.C.toList (zAc q m.seqs * 10) _ wb.drew hpi.1
    rw [zGd m.items[zAc q m.seqs].C.toList x.C.toList (zAc q m.seqs * 10) curi rfl] at hh
    exact hh
   have R3 := RL.li (i' := rowE 110 10 Ru.C m.iv (zAm m.items (zAc q m.seqs) x)) RB.out (by show wb.grownBy _ m.iv.ownBlock; rw [hiv]; exact hg3) (hputi _ x hc3) (.inl rfl)
   have HP3 := hid (HPT.out.frame hg3 (fun e => hne (Option.some.inj e).symm))
   have HR3 := hid R3
   have HIV := hid hiv
   have HSQ := hid hs
   have HII := hid hi
   have hiz : ((zAc q m.seqs : Nat) : Int) < (m.items.length : Int) := by omega
   have hi0 : (0 : Int) ≤ ((zAc q m.seqs : Nat) : Int) := by omega
   clear hg3 hc3 R3 hiv hs hpi hputi HI hlen hile hgiB ht hi
   go_wp2_with fail
   go_still_tail 7, (by kernel_rfl)
   change wpList _ _ _ _ _ wb.drew
   refine wpList_store_mid rfl _ _ _ rfl gi (zAc q m.seqs * 10) x.C (by first | rfl | (simp; done)) rfl HT.out Tryz.sizeRu HX1.out ?_
   go_wp2_with fail
   generalize wb.drew.setCells gi (zAc q m.seqs * 10) x.C.toList = w3 at HP3 HR3 ⊢
   have cI3 : w3.cell? ⟨gl, k * 3 + 2, none⟩ = .some (.slice (some ⟨gi, 0, none⟩) m.items.length capi) := by rw [← HIV.out]; exact HP3.out.cell (j := 2) (by show 2 < 3; decide)
   go_wp2_with fail
   go_still (by kernel_rfl)
   go_wp2_with fail
   go_ret2
   have hR := (HR3.out.keep (zAv w3)).base
   rw [HA.out, HBq.out, ← zFv HK2.out (m := (⟨m.name, m.seqs, zAm m.items (zAc q m.seqs) x, m.sv, m.iv, m.s1, m.i1⟩ : Lm Ru)) (by rw [← HM.out]; rfl)] at hR
   have hR2 := (zDm (Ti := 3) (Te := 110) (n := 10) (cells := Ru.C) (Tl := 139) (ms := ms2) pre post k (⟨m.name, m.seqs, zAm m.items (zAc q m.seqs) x, m.sv, m.iv, m.s1, m.i1⟩ : Lm Ru) _) ▸ hR
   refine ⟨_, zAm ms2 k ⟨m.name, m.seqs, zAm m.items (zAc q m.seqs) x, m.sv, m.iv, m.s1, m.i1⟩, ⟨m.name, m.seqs, zAm m.items (zAc q m.seqs) x, m.sv, m.iv, m.s1, m.i1⟩, gi, capi, by rw [E2.out]; rfl, hR2, ?_, ?_, ?_, ?_⟩
   ·rw [E1.out, zDo]
    congr 1
    unfold zFq
    exact (if_pos HSQ.out).symm
   ·rw [E2.out]
    exact zDa HK2.out _
   ·show m.iv = .slice _ (zAm m.items (zAc q m.seqs) x).length _
    rw [zBf HII.out]
    exact HIV.out
   ·rw [E2.out]
    show zAc q m.seqs < (zAm m.items (zAc q m.seqs) x).length
    rw [zBf HII.out]
    exact HII.out
  | false =>
   have cS : wb.cell? ⟨gl, k * 3 + 1, none⟩ = .some m.sv := HPT.out.cell (j := 1) (by show 1 < 3; decide)
   have hsl : m.seqs.length ≤ 1000001 := by have h1 : m.items.length ≤ 1000001 := HL.out.items.1; omega
   have HSL := hid hsl
   have HSQ := hid hs
   have HLN := hid hlen
   have HIL := hid hile
   have B2 := (Below.refl wb.heap.size wb).alloc (Nat.le_refl _) (.cells (intC q) 3)
   have RB2 := hid (RB.out.keep B2)
   have HPT2 := hid (HPT.out.below B2)
   have hbw : B ≤ wb.heap.size := by have := RB.out.base.size; omega
   have HI4 := hid (zJq B m.sv m.seqs q (zAc q m.seqs) wb.heap.size _ RB2.out.sAt (HasC.new wb 3 (intC q)) (fun e => by have := (Orow.own.lt RB.out.sAt (g := wb.heap.size) e).1; omega) hile (by show B ≤ (wb.alloc _).heap.size; simp; omega) (by omega))
   clear hlen hile hsl hs B2
   go_wp2_with fail
   refine HI4.out.mono ?_
   rintro e w4 ⟨v4, rfl, ho4, hn4, hg4⟩
   have R4 := RL.ls (s' := rowE 3 1 intC v4 (insAt m.seqs (zAc q m.seqs) q)) RB2.out hg4 ho4 hn4
   have hP4 := HPT2.out.frame hg4 (fun e => (RL.ne RB.out).1 rfl e rfl)
   have hone4 := own_one ho4
   have hf4 : ∃ A m c, v4 = .slice A m c := by
    rcases ho4.2 with ⟨e, -⟩ | ⟨_, _, _, e, -⟩
    ·exact ⟨_, _, _, e⟩
    ·exact ⟨_, _, _, e⟩
   obtain ⟨A4, n4, c4, rfl⟩ := hf4
   have hP5 := hP4.put (cs' := (⟨m.name, insAt m.seqs (zAc q m.seqs) q, m.items, .slice A4 n4 c4, m.iv, rfl, m.i1⟩ : Lm Ru).C) (j := 1) (by show 1 < 3; decide) (.slice A4 n4 c4) rfl
   have R5 := RL.lo (o' := rowE 139 3 Lm.C (.slice (some ⟨gl, 0, none⟩) ms2.length capl) (zAm ms2 k (⟨m.name, insAt m.seqs (zAc q m.seqs) q, m.items, .slice A4 n4 c4, m.iv, rfl, m.i1⟩ : Lm Ru))) R4 (zBj w4 gl (k * 3 + 1) (.slice A4 n4 c4)) (by have h := HPut.out _ _ hP5.1; exact (by rw [← rowE_own] at h; exact h)) (.inl rfl)
   have HP5 := hid hP5
   have HR5 := hid R5
   have cS4 : w4.cell? ⟨gl, k * 3 + 1, none⟩ = .some m.sv := hP4.cell (j := 1) (by show 1 < 3; decide)
   have fz := hP4.frz
   clear R4 hP4 hP5 R5 ho4 hn4 hg4 hone4 HI4 cS
   go_wp2_with fail
   generalize w4.setCell ⟨gl, k * 3 + 1, none⟩ (.slice A4 n4 c4) = w5 at HP5 HR5 ⊢
   have cI5 : w5.cell? ⟨gl, k * 3 + 2, none⟩ = .some m.iv := HP5.out.cell (j := 2) (by show 2 < 3; decide)
   have cy0 : w5.cell? ⟨w.heap.size, 0, none⟩ = .some (.bool x.permit) := HR5.out.loc.cell 0
   have cy1 : w5.cell? ⟨w.heap.size, 1, none⟩ = .some (.int .i64 x.proto) := HR5.out.loc.cell 1
   have cy2 : w5.cell? ⟨w.heap.size, 2, none⟩ = .some (.int .u32 (x.sa : Int)) := HR5.out.loc.cell 2
   have cy3 : w5.cell? ⟨w.heap.size, 3, none⟩ = .some (.int .u32 (x.sm : Int)) := HR5.out.loc.cell 3
   have cy4 : w5.cell? ⟨w.heap.size, 4, none⟩ = .some (.int .u32 (x.da : Int)) := HR5.out.loc.cell 4
   have cy5 : w5.cell? ⟨w.heap.size, 5, none⟩ = .some (.int .u32 (x.dm : Int)) := HR5.out.loc.cell 5
   have cy6 : w5.cell? ⟨w.heap.size, 6, none⟩ = .some (.int .i64 x.slo) := HR5.out.loc.cell 6
   have cy7 : w5.cell? ⟨w.heap.size, 7, none⟩ = .some (.int .i64 x.shi) := HR5.out.loc.cell 7
   have cy8 : w5.cell? ⟨w.heap.size, 8, none⟩ = .some (.int .i64 x.dlo) := HR5.out.loc.cell 8
   have cy9 : w5.cell? ⟨w.heap.size, 9, none⟩ = .some (.int .i64 x.dhi) := HR5.out.loc.cell 9
   have cIa : ∀ o, (w5.alloc o).cell? ⟨gl, k * 3 + 2, none⟩ = .some m.iv := fun o => (World.cell?_alloc_lt w5 o ⟨gl, k * 3 + 2, none⟩ HP5.out.lt).trans cI5
   have BD : Below w5.heap.size w5 (w5.drew.alloc (.cells x.C 110)) := by
    have h := (Below.refl w5.heap.size w5.drew).alloc (Nat.le_refl _) (.cells x.C 110)
    exact ⟨h.os, h.tape, h.output, h.size, h.block⟩
   have HRD := hid (HR5.out.keep BD)
   have HPD := hid (HP5.out.below BD)
   have hbw5 : B ≤ w5.heap.size := by have := HR5.out.base.size; omega
   have hile : zAc q m.seqs ≤ m.items.length := by rw [HLN.out]; exact HIL.out
   have hil : m.items.length ≤ 1000001 := HL.out.items.1
   have HIE := hid hile
   have HI6 := hid (insRu_any B m.iv m.items x (zAc q m.seqs) w5.heap.size _ HRD.out.iAt (HasC.new w5.drew 110 x.C) (fun e => by have := (Orow.own.lt HR5.out.iAt (g := w5.heap.size) e).1; omega) hile (by show B ≤ (w5.drew.alloc _).heap.size; have h : w5.drew.heap.size = w5.heap.size := rfl; simp; omega) (by omega))
   have HQ := hid (fun w6 (hg6 : (w5.drew.alloc (.cells x.C 110)).grownBy w6 m.iv.ownBlock) => HPD.out.frame hg6 (fun e => (RL.ne HR5.out).2.1 rfl e rfl))
   clear BD hile hil
   go_region_law (go_simp; go_at_call 231; refine HI6.out.mono ?_; rintro e w6 ⟨v6, rfl, ho6, hn6, hg6⟩; have c6 : w6.cell? ⟨gl, k * 3 + 2, none⟩ = .some m.iv := (HQ.out w6 hg6).cell (j := 2) (by show 2 < 3; decide); have f6 := (HQ.out w6 hg6).frz; obtain ⟨gi, capi, -, rfl, -⟩ := ho6.blk (by rw [zBt]; omega); have HO6 := hid ho6; have HN6 := hid hn6; have HG6 := hid hg6; clear ho6 hn6 hg6)
   all_goals
    have R6 := RL.li (i' := rowE 110 10 Ru.C (.slice (some ⟨gi, 0, none⟩) (insAt m.items (zAc q m.seqs) x).length capi) (insAt m.items (zAc q m.seqs) x)) HRD.out HG6.out HO6.out HN6.out
    have hP7 := (HQ.out w6 HG6.out).put (cs' := (⟨m.name, insAt m.seqs (zAc q m.seqs) q, insAt m.items (zAc q m.seqs) x, .slice A4 n4 c4, .slice (some ⟨gi, 0, none⟩) (insAt m.items (zAc q m.seqs) x).length capi, rfl, rfl⟩ : Lm Ru).C) (j := 2) (by show 2 < 3; decide) (.slice (some ⟨gi, 0, none⟩) (insAt m.items (zAc q m.seqs) x).length capi) rfl
    have R7 := RL.lo (o' := rowE 139 3 Lm.C (.slice (some ⟨gl, 0, none⟩) ms2.length capl) (zAm ms2 k (⟨m.name, insAt m.seqs (zAc q m.seqs) q, insAt m.items (zAc q m.seqs) x, .slice A4 n4 c4, .slice (some ⟨gi, 0, none⟩) (insAt m.items (zAc q m.seqs) x).length capi, rfl, rfl⟩ : Lm Ru))) R6 (zBj w6 gl (k * 3 + 2) (.slice (some ⟨gi, 0, none⟩) (insAt m.items (zAc q m.seqs) x).length capi)) (by have h := HPut.out _ _ hP7.1; exact h) (.inl rfl)
    have HP7 := hid hP7
    have HR7 := hid R7
    clear R6 hP7 R7 c6 f6
    generalize w6.setCell ⟨gl, k * 3 + 2, none⟩ (.slice (some ⟨gi, 0, none⟩) (insAt m.items (zAc q m.seqs) x).length capi) = w7 at HP7 HR7 ⊢
    have cI7 : w7.cell? ⟨gl, k * 3 + 2, none⟩ = .some (.slice (some ⟨gi, 0, none⟩) (insAt m.items (zAc q m.seqs) x).length capi) := HP7.out.cell (j := 2) (by show 2 < 3; decide)
    have hil7 := zBt (l := m.items) (i := zAc q m.seqs) x
    have hie := HIE.out
    have hiz : ((zAc q m.seqs : Nat) : Int) < ((insAt m.items (zAc q m.seqs) x).length : Int) := by omega
    have hi0 : (0 : Int) ≤ ((zAc q m.seqs : Nat) : Int) := by omega
    clear hil7 hie
    go_wp2_with fail
    go_still (by kernel_rfl)
    go_wp2_with fail
    go_ret2
    have hR := (HR7.out.keep (zAv w7)).base
    rw [HA.out, HBq.out] at hR
    have hR2 := (zDm (Ti := 3) (Te := 110) (n := 10) (cells := Ru.C) (Tl := 139) (ms := ms2) pre post k (⟨m.name, insAt m.seqs (zAc q m.seqs) q, insAt m.items (zAc q m.seqs) x, .slice A4 n4 c4, .slice (some ⟨gi, 0, none⟩) (insAt m.items (zAc q m.seqs) x).length capi, rfl, rfl⟩ : Lm Ru) _) ▸ hR
    refine ⟨_, zAm ms2 k (⟨m.name, insAt m.seqs (zAc q m.seqs) q, insAt m.items (zAc q m.seqs) x, .slice A4 n4 c4, .slice (some ⟨gi, 0, none⟩) (insAt m.items (zAc q m.seqs) x).length capi, rfl, rfl⟩ : Lm Ru), (⟨m.name, insAt m.seqs (zAc q m.seqs) q, insAt m.items (zAc q m.seqs) x, .slice A4 n4 c4, .slice (some ⟨gi, 0, none⟩) (insAt m.items (zAc q m.seqs) x).length capi, rfl, rfl⟩ : Lm Ru), gi, capi, by rw [E2.out]; rfl, hR2, ?_, ?_, ?_, ?_⟩
    ·rw [E1.out, zDo]
     congr 1
     unfold zFq
     exact (if_neg (by rw [show zDq q m.ls.seqs = false from HSQ.out]; decide)).symm
    ·rw [E2.out]
     exact zDa HK2.out _
    ·rfl
    ·rw [E2.out]
     show zAc q m.seqs < (insAt m.items (zAc q m.seqs) x).length
     rw [zBt]
     have := HIE.out
     omega
end
theorem zGg {g b B : Nat} {w0 w : World} {a a' : Al} {v v' : Av} {p : Ps} (h : RS 88 131 g b B w0 (AlC a' v') ((AlR a v).take 11 ++ zAq 135 3 96 5 PRule.C v'.lists v'.lm ++ (rowsM v ++ rowsA v)) p w)
  (e1 : (AlR a v).take 11 = (AlR a' v').take 11 := by rfl) (e2 : rowsM v = rowsM v' := by rfl) (e3 : rowsA v = rowsA v' := by rfl) : RS 88 131 g b B w0 (AlC a' v') (AlR a' v') p w := by
 have e : AlR a' v' = (AlR a v).take 11 ++ rowsP v' ++ (rowsM v ++ rowsA v) := by rw [e1, e2, e3]; simp [AlR]
 rw [e]
 exact h
def pr1 (p : Ps) := nmS p
def pr2 (p : Ps) := noS 1 65535 (pr1 p)
def pr3 (p : Ps) := chS [112, 101, 114, 109, 105, 116] [100, 101, 110, 121] (pr2 p)
def pr4 (p : Ps) := pxS (pr3 p)
def prx (p : Ps) := pxV (pr3 p)
def pry (p : Ps) := chB [112, 101, 114, 109, 105, 116] [100, 101, 110, 121] (pr2 p)
theorem prefixRule_any (g b B : Nat) (w0 : World) (a : Al) (p : Ps) (w : World) (h : RA g b B w0 a p w) (hk : AlOk 1000000 a) (he : EnvA B w0) (hs : p.short) (hb : a.block = 0) :
  Calls Tryz.prog 111 #[.pointer (some ⟨g, 0, none⟩), .pointer (some ⟨b, 0, none⟩)] w (APost g b B w0 (pRule a p).1 (pRule a p).2) := by
 obtain ⟨v, h, hl, -, -⟩ := h
 obtain ⟨hl1, hl2, hl3⟩ := hl
 have H := hid h
 have HE := hid he
 have HS := hid hs
 have HK := hid hk
 have HL1 := hid hl1
 have HL2 := hid hl2
 have HL3 := hid hl3
 have HB0 := hid hb
 clear h he hs hk hl1 hl2 hl3 hb
 cases cg : isW [103, 101] (pr4 p) with
 | true =>
  cases ce : isW [108, 101] (noS 0 32 (optS [103, 101] (pr4 p))) with
  | true =>
   have E : Hid (pRule a p = ({ a with lists := putL (nmV p) (noV 1 65535 (pr1 p)) ⟨(pry p), (prx p).1, (prx p).2, (noV 0 32 (optS [103, 101] (pr4 p))), (noV 0 32 (optS [108, 101] (noS 0 32 (optS [103, 101] (pr4 p)))))⟩ a.lists }, (noS 0 32 (optS [108, 101] (noS 0 32 (optS [103, 101] (pr4 p))))))) := hid (by have cg2 : isW [103, 101] (pxS (chS [112, 101, 114, 109, 105, 116] [100, 101, 110, 121] (noS 1 65535 (nmS p)))) = true := cg; have ce2 : isW [108, 101] (noS 0 32 (optS [103, 101] (pxS (chS [112, 101, 114, 109, 105, 116] [100, 101, 110, 121] (noS 1 65535 (nmS p)))))) = true := ce; unfold pRule; dsimp only; simp only [cg2, ce2, if_true]; rfl)
   have CG := hid cg
   have CE := hid ce
   clear cg ce
   go_enter Tryz.func111, Tryz.ntmps111
   go_wp2_with fail
   refine (zBb b B p _ H.out.st).mono ?_
   rintro e w1 ⟨rfl, h1, k1⟩
   have H1 := hid (H.out.word h1 k1)
   clear h1 k1
   unfold strV
   go_wp2_with fail
   refine (zCk b B (pr1 p) _ H1.out.st).mono ?_
   rintro e w2 ⟨rfl, h2, k2⟩
   have H2 := hid (H1.out.word h2 k2)
   clear h2 k2
   go_wp2_with fail
   refine (zBg b B (pr2 p) [112, 101, 114, 109, 105, 116] [100, 101, 110, 121] _ H2.out.st).mono ?_
   rintro e w3 ⟨rfl, h3, k3⟩
   have H3 := hid (H2.out.word h3 k3)
   clear h3 k3
   go_wp2_with fail
   refine (zBw b B (pr3 p) _ H3.out.st (H3.out.env HE.out) (zCc _ _ (zCb _ _ (zCp HS.out)))).mono ?_
   rintro e w4 ⟨rfl, h4, k4⟩
   have H4 := hid (H3.out.word h4 k4)
   clear h4 k4
   go_upto_region 2 with (refine zAe rfl _ _ _ rfl rfl (ds := PRule.C ⟨(pry p), (prx p).1, (prx p).2, 0, 0⟩) rfl (HasC.new _ _ _) rfl Tryz.sizePRule (PRule.one ⟨(pry p), (prx p).1, (prx p).2, 0, 0⟩) ?_; intro w5 hx hg; have H5 := hid (RL.start H4.out hx hg); clear hx hg)
   have c2 : w5.cell? ⟨w4.heap.size, 2, none⟩ = .some (.int .i64 (prx p).2) := H5.out.loc.cell 2
   obtain ⟨y3, c3⟩ := H5.out.lsome (j := 3) (show 3 < 5 from by decide)
   obtain ⟨y4, c4⟩ := H5.out.lsome (j := 4) (show 4 < 5 from by decide)
   have fz := H5.out.lfrz
   go_wp2_with fail
   refine (zAl b B (pr4 p) [103, 101] _ ((H5.out.put 3 (.int .i64 (prx p).2) rfl).put 4 (.int .i64 (prx p).2) rfl).base.st).mono ?_
   rintro e w6 ⟨rfl, h6, k6⟩
   have H6 := hid (((H5.out.put 3 (.int .i64 (prx p).2) rfl).put 4 (.int .i64 (prx p).2) rfl).word h6 k6)
   clear h6 k6
   rw [CG.out]
   go_wp2_with fail
   refine (zAo b B (optS [103, 101] (pr4 p)) 0 32 _ H6.out.base.st).mono ?_
   rintro e w7 ⟨rfl, h7, k7⟩
   have H7 := hid (H6.out.word h7 k7)
   clear h7 k7
   obtain ⟨y3, c3⟩ := H7.out.lsome (j := 3) (show 3 < 5 from by decide)
   obtain ⟨y4, c4⟩ := H7.out.lsome (j := 4) (show 4 < 5 from by decide)
   have fz := H7.out.lfrz
   go_wp2_with fail
   refine (zAl b B (noS 0 32 (optS [103, 101] (pr4 p))) [108, 101] _ ((H7.out.put 3 (.int .i64 (noV 0 32 (optS [103, 101] (pr4 p)))) rfl).put 4 (.int .i64 32) rfl).base.st).mono ?_
   rintro e w8 ⟨rfl, h8, k8⟩
   have H8 := hid (((H7.out.put 3 (.int .i64 (noV 0 32 (optS [103, 101] (pr4 p)))) rfl).put 4 (.int .i64 32) rfl).word h8 k8)
   clear h8 k8
   rw [CE.out]
   go_wp2_with fail
   refine (zAo b B (optS [108, 101] (noS 0 32 (optS [103, 101] (pr4 p)))) 0 32 _ H8.out.base.st).mono ?_
   rintro e w9 ⟨rfl, h9, k9⟩
   have H9 := hid (H8.out.word h9 k9)
   clear h9 k9
   obtain ⟨y4, c4⟩ := H9.out.lsome (j := 4) (show 4 < 5 from by decide)
   have fz := H9.out.lfrz
   go_wp2_with fail
   have RZ : RL 88 131 g b B w0 (AlC a v) (AlR a v) (noS 0 32 (optS [108, 101] (noS 0 32 (optS [103, 101] (pr4 p))))) 96 w4.heap.size (PRule.C ⟨(pry p), (prx p).1, (prx p).2, (noV 0 32 (optS [103, 101] (pr4 p))), (noV 0 32 (optS [108, 101] (noS 0 32 (optS [103, 101] (pr4 p)))))⟩) (w9.setCell ⟨w4.heap.size, 4, none⟩ (.int .i64 (noV 0 32 (optS [108, 101] (noS 0 32 (optS [103, 101] (pr4 p))))))) := (H9.out.put 4 (.int .i64 (noV 0 32 (optS [108, 101] (noS 0 32 (optS [103, 101] (pr4 p)))))) rfl)
   have HZ := hid RZ
   clear RZ
   generalize (w9.setCell ⟨w4.heap.size, 4, none⟩ (.int .i64 (noV 0 32 (optS [108, 101] (noS 0 32 (optS [103, 101] (pr4 p))))))) = wz at HZ ⊢
   have cr : wz.cell? ⟨g, 25, none⟩ = .some v.lists := HZ.out.base.cell 25
   have cx0 : wz.cell? ⟨w4.heap.size, 0, none⟩ = .some (.bool (pry p)) := HZ.out.loc.cell 0
   have cx1 : wz.cell? ⟨w4.heap.size, 1, none⟩ = .some (.int .u32 ((prx p).1 : Int)) := HZ.out.loc.cell 1
   have cx2 : wz.cell? ⟨w4.heap.size, 2, none⟩ = .some (.int .i64 (prx p).2) := HZ.out.loc.cell 2
   have cx3 : wz.cell? ⟨w4.heap.size, 3, none⟩ = .some (.int .i64 (noV 0 32 (optS [103, 101] (pr4 p)))) := HZ.out.loc.cell 3
   have cx4 : wz.cell? ⟨w4.heap.size, 4, none⟩ = .some (.int .i64 (noV 0 32 (optS [108, 101] (noS 0 32 (optS [103, 101] (pr4 p)))))) := HZ.out.loc.cell 4
   have hRS : RS 88 131 g b B w0 (AlC a v) (((AlR a v).take 11) ++ zAq 135 3 96 5 PRule.C v.lists v.lm ++ (rowsM v ++ rowsA v)) (noS 0 32 (optS [108, 101] (noS 0 32 (optS [103, 101] (pr4 p))))) wz.drew := by
    have h := (HZ.out.base.keep (zAv wz))
    have e : AlR a v = ((AlR a v).take 11) ++ rowsP v ++ (rowsM v ++ rowsA v) := by simp [AlR]
    rw [e] at h
    exact h
   have HP := hid (zFz v.lists v.lm (nmV p) (noV 1 65535 (pr1 p)) ⟨(pry p), (prx p).1, (prx p).2, (noV 0 32 (optS [103, 101] (pr4 p))), (noV 0 32 (optS [108, 101] (noS 0 32 (optS [103, 101] (pr4 p)))))⟩ ((noS 0 32 (optS [108, 101] (noS 0 32 (optS [103, 101] (pr4 p)))))) wz.drew hRS (by rw [← HL1.out]; exact HK.out.lists) (zHf _))
   clear hRS
   skip
   go_region_law (go_simp; go_at_call 175; refine HP.out.mono ?_; rintro e w5 ⟨v5, ms5, m5, gi5, cap5, rfl, h5, hl5, hm5, hi5, hn5⟩; obtain ⟨A5, n5, d5, rfl⟩ := RS.form (pre := ((AlR a v).take 11)) (post := ms5.flatMap (Lm.rows 3 96 5 PRule.C) ++ (rowsM v ++ rowsA v)) (v := v5) (by have := h5; unfold zAq at this; simpa using this); have H5 := hid h5; have HL5 := hid hl5; have HM5 := hid hm5; have HI5 := hid hi5; have HN5 := hid hn5; clear h5 hl5 hm5 hi5 hn5; obtain ⟨y25, c25⟩ := H5.out.some (j := 25) (show 25 < 31 from by decide); have fz := H5.out.frz)
   all_goals
    go_wp2_with fail
    go_end0
    rw [E.out]
    exact ⟨rfl, { v with lists := .slice A5 n5 d5, lm := ms5 }, zGg (H5.out.put 25 _ rfl), ⟨by rw [HL5.out, HL1.out], HL2.out, HL3.out⟩, (fun h => by have := HB0.out; rw [show a.block = 1 from h] at this; exact absurd this (by decide)), (fun h => by have := HB0.out; rw [show a.block = 2 from h] at this; exact absurd this (by decide))⟩
  | false =>
   have E : Hid (pRule a p = ({ a with lists := putL (nmV p) (noV 1 65535 (pr1 p)) ⟨(pry p), (prx p).1, (prx p).2, (noV 0 32 (optS [103, 101] (pr4 p))), 32⟩ a.lists }, (noS 0 32 (optS [103, 101] (pr4 p))))) := hid (by have cg2 : isW [103, 101] (pxS (chS [112, 101, 114, 109, 105, 116] [100, 101, 110, 121] (noS 1 65535 (nmS p)))) = true := cg; have ce2 : isW [108, 101] (noS 0 32 (optS [103, 101] (pxS (chS [112, 101, 114, 109, 105, 116] [100, 101, 110, 121] (noS 1 65535 (nmS p)))))) = false := ce; unfold pRule; dsimp only; simp only [cg2, ce2, if_true, Bool.false_eq_true, if_false]; rfl)
   have CG := hid cg
   have CE := hid ce
   clear cg ce
   go_enter Tryz.func111, Tryz.ntmps111
   go_wp2_with fail
   refine (zBb b B p _ H.out.st).mono ?_
   rintro e w1 ⟨rfl, h1, k1⟩
   have H1 := hid (H.out.word h1 k1)
   clear h1 k1
   unfold strV
   go_wp2_with fail
   refine (zCk b B (pr1 p) _ H1.out.st).mono ?_
   rintro e w2 ⟨rfl, h2, k2⟩
   have H2 := hid (H1.out.word h2 k2)
   clear h2 k2
   go_wp2_with fail
   refine (zBg b B (pr2 p) [112, 101, 114, 109, 105, 116] [100, 101, 110, 121] _ H2.out.st).mono ?_
   rintro e w3 ⟨rfl, h3, k3⟩
   have H3 := hid (H2.out.word h3 k3)
   clear h3 k3
   go_wp2_with fail
   refine (zBw b B (pr3 p) _ H3.out.st (H3.out.env HE.out) (zCc _ _ (zCb _ _ (zCp HS.out)))).mono ?_
   rintro e w4 ⟨rfl, h4, k4⟩
   have H4 := hid (H3.out.word h4 k4)
   clear h4 k4
   go_upto_region 2 with (refine zAe rfl _ _ _ rfl rfl (ds := PRule.C ⟨(pry p), (prx p).1, (prx p).2, 0, 0⟩) rfl (HasC.new _ _ _) rfl Tryz.sizePRule (PRule.one ⟨(pry p), (prx p).1, (prx p).2, 0, 0⟩) ?_; intro w5 hx hg; have H5 := hid (RL.start H4.out hx hg); clear hx hg)
   have c2 : w5.cell? ⟨w4.heap.size, 2, none⟩ = .some (.int .i64 (prx p).2) := H5.out.loc.cell 2
   obtain ⟨y3, c3⟩ := H5.out.lsome (j := 3) (show 3 < 5 from by decide)
   obtain ⟨y4, c4⟩ := H5.out.lsome (j := 4) (show 4 < 5 from by decide)
   have fz := H5.out.lfrz
   go_wp2_with fail
   refine (zAl b B (pr4 p) [103, 101] _ ((H5.out.put 3 (.int .i64 (prx p).2) rfl).put 4 (.int .i64 (prx p).2) rfl).base.st).mono ?_
   rintro e w6 ⟨rfl, h6, k6⟩
   have H6 := hid (((H5.out.put 3 (.int .i64 (prx p).2) rfl).put 4 (.int .i64 (prx p).2) rfl).word h6 k6)
   clear h6 k6
   rw [CG.out]
   go_wp2_with fail
   refine (zAo b B (optS [103, 101] (pr4 p)) 0 32 _ H6.out.base.st).mono ?_
   rintro e w7 ⟨rfl, h7, k7⟩
   have H7 := hid (H6.out.word h7 k7)
   clear h7 k7
   obtain ⟨y3, c3⟩ := H7.out.lsome (j := 3) (show 3 < 5 from by decide)
   obtain ⟨y4, c4⟩ := H7.out.lsome (j := 4) (show 4 < 5 from by decide)
   have fz := H7.out.lfrz
   go_wp2_with fail
   refine (zAl b B (noS 0 32 (optS [103, 101] (pr4 p))) [108, 101] _ ((H7.out.put 3 (.int .i64 (noV 0 32 (optS [103, 101] (pr4 p)))) rfl).put 4 (.int .i64 32) rfl).base.st).mono ?_
   rintro e w8 ⟨rfl, h8, k8⟩
   rw [zBx CE.out] at h8
   have H8 := hid (((H7.out.put 3 (.int .i64 (noV 0 32 (optS [103, 101] (pr4 p)))) rfl).put 4 (.int .i64 32) rfl).word h8 k8)
   clear h8 k8
   rw [CE.out]
   go_wp2_with fail
   have RZ : RL 88 131 g b B w0 (AlC a v) (AlR a v) (noS 0 32 (optS [103, 101] (pr4 p))) 96 w4.heap.size (PRule.C ⟨(pry p), (prx p).1, (prx p).2, (noV 0 32 (optS [103, 101] (pr4 p))), 32⟩) w8 := H8.out
   have HZ := hid RZ
   clear RZ
   have cr : w8.cell? ⟨g, 25, none⟩ = .some v.lists := HZ.out.base.cell 25
   have cx0 : w8.cell? ⟨w4.heap.size, 0, none⟩ = .some (.bool (pry p)) := HZ.out.loc.cell 0
   have cx1 : w8.cell? ⟨w4.heap.size, 1, none⟩ = .some (.int .u32 ((prx p).1 : Int)) := HZ.out.loc.cell 1
   have cx2 : w8.cell? ⟨w4.heap.size, 2, none⟩ = .some (.int .i64 (prx p).2) := HZ.out.loc.cell 2
   have cx3 : w8.cell? ⟨w4.heap.size, 3, none⟩ = .some (.int .i64 (noV 0 32 (optS [103, 101] (pr4 p)))) := HZ.out.loc.cell 3
   have cx4 : w8.cell? ⟨w4.heap.size, 4, none⟩ = .some (.int .i64 32) := HZ.out.loc.cell 4
   have hRS : RS 88 131 g b B w0 (AlC a v) (((AlR a v).take 11) ++ zAq 135 3 96 5 PRule.C v.lists v.lm ++ (rowsM v ++ rowsA v)) (noS 0 32 (optS [103, 101] (pr4 p))) w8.drew := by
    have h := (HZ.out.base.keep (zAv w8))
    have e : AlR a v = ((AlR a v).take 11) ++ rowsP v ++ (rowsM v ++ rowsA v) := by simp [AlR]
    rw [e] at h
    exact h
   have HP := hid (zFz v.lists v.lm (nmV p) (noV 1 65535 (pr1 p)) ⟨(pry p), (prx p).1, (prx p).2, (noV 0 32 (optS [103, 101] (pr4 p))), 32⟩ ((noS 0 32 (optS [103, 101] (pr4 p)))) w8.drew hRS (by rw [← HL1.out]; exact HK.out.lists) (zHf _))
   clear hRS
   skip
   go_region_law (go_simp; go_at_call 175; refine HP.out.mono ?_; rintro e w5 ⟨v5, ms5, m5, gi5, cap5, rfl, h5, hl5, hm5, hi5, hn5⟩; obtain ⟨A5, n5, d5, rfl⟩ := RS.form (pre := ((AlR a v).take 11)) (post := ms5.flatMap (Lm.rows 3 96 5 PRule.C) ++ (rowsM v ++ rowsA v)) (v := v5) (by have := h5; unfold zAq at this; simpa using this); have H5 := hid h5; have HL5 := hid hl5; have HM5 := hid hm5; have HI5 := hid hi5; have HN5 := hid hn5; clear h5 hl5 hm5 hi5 hn5; obtain ⟨y25, c25⟩ := H5.out.some (j := 25) (show 25 < 31 from by decide); have fz := H5.out.frz)
   all_goals
    go_wp2_with fail
    go_end0
    rw [E.out]
    exact ⟨rfl, { v with lists := .slice A5 n5 d5, lm := ms5 }, zGg (H5.out.put 25 _ rfl), ⟨by rw [HL5.out, HL1.out], HL2.out, HL3.out⟩, (fun h => by have := HB0.out; rw [show a.block = 1 from h] at this; exact absurd this (by decide)), (fun h => by have := HB0.out; rw [show a.block = 2 from h] at this; exact absurd this (by decide))⟩
 | false =>
  cases ce : isW [108, 101] (pr4 p) with
  | true =>
   have E : Hid (pRule a p = ({ a with lists := putL (nmV p) (noV 1 65535 (pr1 p)) ⟨(pry p), (prx p).1, (prx p).2, (prx p).2, (noV 0 32 (optS [108, 101] (pr4 p)))⟩ a.lists }, (noS 0 32 (optS [108, 101] (pr4 p))))) := hid (by have cg2 : isW [103, 101] (pxS (chS [112, 101, 114, 109, 105, 116] [100, 101, 110, 121] (noS 1 65535 (nmS p)))) = false := cg; have ce2 : isW [108, 101] (pxS (chS [112, 101, 114, 109, 105, 116] [100, 101, 110, 121] (noS 1 65535 (nmS p)))) = true := ce; unfold pRule; dsimp only; simp only [cg2, ce2, if_true, Bool.false_eq_true, if_false]; rfl)
   have CG := hid cg
   have CE := hid ce
   clear cg ce
   go_enter Tryz.func111, Tryz.ntmps111
   go_wp2_with fail
   refine (zBb b B p _ H.out.st).mono ?_
   rintro e w1 ⟨rfl, h1, k1⟩
   have H1 := hid (H.out.word h1 k1)
   clear h1 k1
   unfold strV
   go_wp2_with fail
   refine (zCk b B (pr1 p) _ H1.out.st).mono ?_
   rintro e w2 ⟨rfl, h2, k2⟩
   have H2 := hid (H1.out.word h2 k2)
   clear h2 k2
   go_wp2_with fail
   refine (zBg b B (pr2 p) [112, 101, 114, 109, 105, 116] [100, 101, 110, 121] _ H2.out.st).mono ?_
   rintro e w3 ⟨rfl, h3, k3⟩
   have H3 := hid (H2.out.word h3 k3)
   clear h3 k3
   go_wp2_with fail
   refine (zBw b B (pr3 p) _ H3.out.st (H3.out.env HE.out) (zCc _ _ (zCb _ _ (zCp HS.out)))).mono ?_
   rintro e w4 ⟨rfl, h4, k4⟩
   have H4 := hid (H3.out.word h4 k4)
   clear h4 k4
   go_upto_region 2 with (refine zAe rfl _ _ _ rfl rfl (ds := PRule.C ⟨(pry p), (prx p).1, (prx p).2, 0, 0⟩) rfl (HasC.new _ _ _) rfl Tryz.sizePRule (PRule.one ⟨(pry p), (prx p).1, (prx p).2, 0, 0⟩) ?_; intro w5 hx hg; have H5 := hid (RL.start H4.out hx hg); clear hx hg)
   have c2 : w5.cell? ⟨w4.heap.size, 2, none⟩ = .some (.int .i64 (prx p).2) := H5.out.loc.cell 2
   obtain ⟨y3, c3⟩ := H5.out.lsome (j := 3) (show 3 < 5 from by decide)
   obtain ⟨y4, c4⟩ := H5.out.lsome (j := 4) (show 4 < 5 from by decide)
   have fz := H5.out.lfrz
   go_wp2_with fail
   refine (zAl b B (pr4 p) [103, 101] _ ((H5.out.put 3 (.int .i64 (prx p).2) rfl).put 4 (.int .i64 (prx p).2) rfl).base.st).mono ?_
   rintro e w6 ⟨rfl, h6, k6⟩
   rw [zBx CG.out] at h6
   have H6 := hid (((H5.out.put 3 (.int .i64 (prx p).2) rfl).put 4 (.int .i64 (prx p).2) rfl).word h6 k6)
   clear h6 k6
   rw [CG.out]
   go_wp2_with fail
   refine (zAl b B (pr4 p) [108, 101] _ H6.out.base.st).mono ?_
   rintro e w7 ⟨rfl, h7, k7⟩
   have H7 := hid (H6.out.word h7 k7)
   clear h7 k7
   rw [CE.out]
   go_wp2_with fail
   refine (zAo b B (optS [108, 101] (pr4 p)) 0 32 _ H7.out.base.st).mono ?_
   rintro e w8 ⟨rfl, h8, k8⟩
   have H8 := hid (H7.out.word h8 k8)
   clear h8 k8
   obtain ⟨y4, c4⟩ := H8.out.lsome (j := 4) (show 4 < 5 from by decide)
   have fz := H8.out.lfrz
   go_wp2_with fail
   have RZ : RL 88 131 g b B w0 (AlC a v) (AlR a v) (noS 0 32 (optS [108, 101] (pr4 p))) 96 w4.heap.size (PRule.C ⟨(pry p), (prx p).1, (prx p).2, (prx p).2, (noV 0 32 (optS [108, 101] (pr4 p)))⟩) (w8.setCell ⟨w4.heap.size, 4, none⟩ (.int .i64 (noV 0 32 (optS [108, 101] (pr4 p))))) := (H8.out.put 4 (.int .i64 (noV 0 32 (optS [108, 101] (pr4 p)))) rfl)
   have HZ := hid RZ
   clear RZ
   generalize (w8.setCell ⟨w4.heap.size, 4, none⟩ (.int .i64 (noV 0 32 (optS [108, 101] (pr4 p))))) = wz at HZ ⊢
   have cr : wz.cell? ⟨g, 25, none⟩ = .some v.lists := HZ.out.base.cell 25
   have cx0 : wz.cell? ⟨w4.heap.size, 0, none⟩ = .some (.bool (pry p)) := HZ.out.loc.cell 0
   have cx1 : wz.cell? ⟨w4.heap.size, 1, none⟩ = .some (.int .u32 ((prx p).1 : Int)) := HZ.out.loc.cell 1
   have cx2 : wz.cell? ⟨w4.heap.size, 2, none⟩ = .some (.int .i64 (prx p).2) := HZ.out.loc.cell 2
   have cx3 : wz.cell? ⟨w4.heap.size, 3, none⟩ = .some (.int .i64 (prx p).2) := HZ.out.loc.cell 3
   have cx4 : wz.cell? ⟨w4.heap.size, 4, none⟩ = .some (.int .i64 (noV 0 32 (optS [108, 101] (pr4 p)))) := HZ.out.loc.cell 4
   have hRS : RS 88 131 g b B w0 (AlC a v) (((AlR a v).take 11) ++ zAq 135 3 96 5 PRule.C v.lists v.lm ++ (rowsM v ++ rowsA v)) (noS 0 32 (optS [108, 101] (pr4 p))) wz.drew := by
    have h := (HZ.out.base.keep (zAv wz))
    have e : AlR a v = ((AlR a v).take 11) ++ rowsP v ++ (rowsM v ++ rowsA v) := by simp [AlR]
    rw [e] at h
    exact h
   have HP := hid (zFz v.lists v.lm (nmV p) (noV 1 65535 (pr1 p)) ⟨(pry p), (prx p).1, (prx p).2, (prx p).2, (noV 0 32 (optS [108, 101] (pr4 p)))⟩ ((noS 0 32 (optS [108, 101] (pr4 p)))) wz.drew hRS (by rw [← HL1.out]; exact HK.out.lists) (zHf _))
   clear hRS
   skip
   go_region_law (go_simp; go_at_call 175; refine HP.out.mono ?_; rintro e w5 ⟨v5, ms5, m5, gi5, cap5, rfl, h5, hl5, hm5, hi5, hn5⟩; obtain ⟨A5, n5, d5, rfl⟩ := RS.form (pre := ((AlR a v).take 11)) (post := ms5.flatMap (Lm.rows 3 96 5 PRule.C) ++ (rowsM v ++ rowsA v)) (v := v5) (by have := h5; unfold zAq at this; simpa using this); have H5 := hid h5; have HL5 := hid hl5; have HM5 := hid hm5; have HI5 := hid hi5; have HN5 := hid hn5; clear h5 hl5 hm5 hi5 hn5; obtain ⟨y25, c25⟩ := H5.out.some (j := 25) (show 25 < 31 from by decide); have fz := H5.out.frz)
   all_goals
    go_wp2_with fail
    go_end0
    rw [E.out]
    exact ⟨rfl, { v with lists := .slice A5 n5 d5, lm := ms5 }, zGg (H5.out.put 25 _ rfl), ⟨by rw [HL5.out, HL1.out], HL2.out, HL3.out⟩, (fun h => by have := HB0.out; rw [show a.block = 1 from h] at this; exact absurd this (by decide)), (fun h => by have := HB0.out; rw [show a.block = 2 from h] at this; exact absurd this (by decide))⟩
  | false =>
   have E : Hid (pRule a p = ({ a with lists := putL (nmV p) (noV 1 65535 (pr1 p)) ⟨(pry p), (prx p).1, (prx p).2, (prx p).2, (prx p).2⟩ a.lists }, (pr4 p))) := hid (by have cg2 : isW [103, 101] (pxS (chS [112, 101, 114, 109, 105, 116] [100, 101, 110, 121] (noS 1 65535 (nmS p)))) = false := cg; have ce2 : isW [108, 101] (pxS (chS [112, 101, 114, 109, 105, 116] [100, 101, 110, 121] (noS 1 65535 (nmS p)))) = false := ce; unfold pRule; dsimp only; simp only [cg2, ce2, Bool.false_eq_true, if_false]; rfl)
   have CG := hid cg
   have CE := hid ce
   clear cg ce
   go_enter Tryz.func111, Tryz.ntmps111
   go_wp2_with fail
   refine (zBb b B p _ H.out.st).mono ?_
   rintro e w1 ⟨rfl, h1, k1⟩
   have H1 := hid (H.out.word h1 k1)
   clear h1 k1
   unfold strV
   go_wp2_with fail
   refine (zCk b B (pr1 p) _ H1.out.st).mono ?_
   rintro e w2 ⟨rfl, h2, k2⟩
   have H2 := hid (H1.out.word h2 k2)
   clear h2 k2
   go_wp2_with fail
   refine (zBg b B (pr2 p) [112, 101, 114, 109, 105, 116] [100, 101, 110, 121] _ H2.out.st).mono ?_
   rintro e w3 ⟨rfl, h3, k3⟩
   have H3 := hid (H2.out.word h3 k3)
   clear h3 k3
   go_wp2_with fail
   refine (zBw b B (pr3 p) _ H3.out.st (H3.out.env HE.out) (zCc _ _ (zCb _ _ (zCp HS.out)))).mono ?_
   rintro e w4 ⟨rfl, h4, k4⟩
   have H4 := hid (H3.out.word h4 k4)
   clear h4 k4
   go_upto_region 2 with (refine zAe rfl _ _ _ rfl rfl (ds := PRule.C ⟨(pry p), (prx p).1, (prx p).2, 0, 0⟩) rfl (HasC.new _ _ _) rfl Tryz.sizePRule (PRule.one ⟨(pry p), (prx p).1, (prx p).2, 0, 0⟩) ?_; intro w5 hx hg; have H5 := hid (RL.start H4.out hx hg); clear hx hg)
   have c2 : w5.cell? ⟨w4.heap.size, 2, none⟩ = .some (.int .i64 (prx p).2) := H5.out.loc.cell 2
   obtain ⟨y3, c3⟩ := H5.out.lsome (j := 3) (show 3 < 5 from by decide)
   obtain ⟨y4, c4⟩ := H5.out.lsome (j := 4) (show 4 < 5 from by decide)
   have fz := H5.out.lfrz
   go_wp2_with fail
   refine (zAl b B (pr4 p) [103, 101] _ ((H5.out.put 3 (.int .i64 (prx p).2) rfl).put 4 (.int .i64 (prx p).2) rfl).base.st).mono ?_
   rintro e w6 ⟨rfl, h6, k6⟩
   rw [zBx CG.out] at h6
   have H6 := hid (((H5.out.put 3 (.int .i64 (prx p).2) rfl).put 4 (.int .i64 (prx p).2) rfl).word h6 k6)
   clear h6 k6
   rw [CG.out]
   go_wp2_with fail
   refine (zAl b B (pr4 p) [108, 101] _ H6.out.base.st).mono ?_
   rintro e w7 ⟨rfl, h7, k7⟩
   rw [zBx CE.out] at h7
   have H7 := hid (H6.out.word h7 k7)
   clear h7 k7
   rw [CE.out]
   go_wp2_with fail
   have RZ : RL 88 131 g b B w0 (AlC a v) (AlR a v) (pr4 p) 96 w4.heap.size (PRule.C ⟨(pry p), (prx p).1, (prx p).2, (prx p).2, (prx p).2⟩) w7 := H7.out
   have HZ := hid RZ
   clear RZ
   have cr : w7.cell? ⟨g, 25, none⟩ = .some v.lists := HZ.out.base.cell 25
   have cx0 : w7.cell? ⟨w4.heap.size, 0, none⟩ = .some (.bool (pry p)) := HZ.out.loc.cell 0
   have cx1 : w7.cell? ⟨w4.heap.size, 1, none⟩ = .some (.int .u32 ((prx p).1 : Int)) := HZ.out.loc.cell 1
   have cx2 : w7.cell? ⟨w4.heap.size, 2, none⟩ = .some (.int .i64 (prx p).2) := HZ.out.loc.cell 2
   have cx3 : w7.cell? ⟨w4.heap.size, 3, none⟩ = .some (.int .i64 (prx p).2) := HZ.out.loc.cell 3
   have cx4 : w7.cell? ⟨w4.heap.size, 4, none⟩ = .some (.int .i64 (prx p).2) := HZ.out.loc.cell 4
   have hRS : RS 88 131 g b B w0 (AlC a v) (((AlR a v).take 11) ++ zAq 135 3 96 5 PRule.C v.lists v.lm ++ (rowsM v ++ rowsA v)) (pr4 p) w7.drew := by
    have h := (HZ.out.base.keep (zAv w7))
    have e : AlR a v = ((AlR a v).take 11) ++ rowsP v ++ (rowsM v ++ rowsA v) := by simp [AlR]
    rw [e] at h
    exact h
   have HP := hid (zFz v.lists v.lm (nmV p) (noV 1 65535 (pr1 p)) ⟨(pry p), (prx p).1, (prx p).2, (prx p).2, (prx p).2⟩ ((pr4 p)) w7.drew hRS (by rw [← HL1.out]; exact HK.out.lists) (zHf _))
   clear hRS
   skip
   go_region_law (go_simp; go_at_call 175; refine HP.out.mono ?_; rintro e w5 ⟨v5, ms5, m5, gi5, cap5, rfl, h5, hl5, hm5, hi5, hn5⟩; obtain ⟨A5, n5, d5, rfl⟩ := RS.form (pre := ((AlR a v).take 11)) (post := ms5.flatMap (Lm.rows 3 96 5 PRule.C) ++ (rowsM v ++ rowsA v)) (v := v5) (by have := h5; unfold zAq at this; simpa using this); have H5 := hid h5; have HL5 := hid hl5; have HM5 := hid hm5; have HI5 := hid hi5; have HN5 := hid hn5; clear h5 hl5 hm5 hi5 hn5; obtain ⟨y25, c25⟩ := H5.out.some (j := 25) (show 25 < 31 from by decide); have fz := H5.out.frz)
   all_goals
    go_wp2_with fail
    go_end0
    rw [E.out]
    exact ⟨rfl, { v with lists := .slice A5 n5 d5, lm := ms5 }, zGg (H5.out.put 25 _ rfl), ⟨by rw [HL5.out, HL1.out], HL2.out, HL3.out⟩, (fun h => by have := HB0.out; rw [show a.block = 1 from h] at this; exact absurd this (by decide)), (fun h => by have := HB0.out; rw [show a.block = 2 from h] at this; exact absurd this (by decide))⟩
theorem rows_maps {g b B : Nat} {w0 w : World} {a a' : Al} {v v' : Av} {p : Ps} (h : RS 88 131 g b B w0 (AlC a' v') (((AlR a v).take 11 ++ rowsP v) ++ zAq 137 3 101 7 Cl.C v'.maps v'.mm ++ (rowsA v)) p w)
  (e1 : (AlR a v).take 11 = (AlR a' v').take 11 := by rfl) (f0 : rowsP v = rowsP v' := by rfl) (f2 : rowsA v = rowsA v' := by rfl) : RS 88 131 g b B w0 (AlC a' v') (AlR a' v') p w := by
 have e : AlR a' v' = (AlR a' v').take 11 ++ rowsP v' ++ rowsM v' ++ rowsA v' := by simp [AlR]
 have f : ((AlR a v).take 11 ++ rowsP v) ++ rowsM v' ++ (rowsA v) = AlR a' v' := by rw [e, e1, f0, f2]
 rw [← f]
 exact h
theorem zHk {g b B : Nat} {w0 w : World} {a a' : Al} {v v' : Av} {p : Ps} (h : RS 88 131 g b B w0 (AlC a' v') (((AlR a v).take 11 ++ rowsP v ++ rowsM v) ++ zAq 139 3 110 10 Ru.C v'.acls v'.am ++ ([])) p w)
  (e1 : (AlR a v).take 11 = (AlR a' v').take 11 := by rfl) (f0 : rowsP v = rowsP v' := by rfl) (f1 : rowsM v = rowsM v' := by rfl) : RS 88 131 g b B w0 (AlC a' v') (AlR a' v') p w := by
 have e : AlR a' v' = (AlR a' v').take 11 ++ rowsP v' ++ rowsM v' ++ rowsA v' := by simp [AlR]
 have f : ((AlR a v).take 11 ++ rowsP v ++ rowsM v) ++ rowsA v' ++ ([]) = AlR a' v' := by rw [e, e1, f0, f1]; simp
 rw [← f]
 exact h
theorem openClause_any (g b B : Nat) (w0 : World) (a : Al) (p : Ps) (w : World) (h : RA g b B w0 a p w) (hk : AlOk 1000000 a) (he : EnvA B w0) (hs : p.short) (hb : a.block = 0) :
  Calls Tryz.prog 112 #[.pointer (some ⟨g, 0, none⟩), .pointer (some ⟨b, 0, none⟩)] w (APost g b B w0 (zKd a p).1 (zKd a p).2) := by
 obtain ⟨v, h, hl, -, -⟩ := h
 obtain ⟨hl1, hl2, hl3⟩ := hl
 have H := hid h
 have HE := hid he
 have HS := hid hs
 have HK := hid hk
 have HL1 := hid hl1
 have HL2 := hid hl2
 have HL3 := hid hl3
 have HB0 := hid hb
 clear h he hs hk hl1 hl2 hl3 hb
 have E : Hid (zKd a p = ({ a with maps := putL (nmV p) (noV 1 65535 (nmS p)) ⟨(chB [112, 101, 114, 109, 105, 116] [100, 101, 110, 121] (noS 1 65535 (nmS p))), [], -1, -1, -1, -1, 0⟩ a.maps, clause := putAt (nmV p) (noV 1 65535 (nmS p)) a.maps, block := 2 }, (chS [112, 101, 114, 109, 105, 116] [100, 101, 110, 121] (noS 1 65535 (nmS p))))) := hid rfl
 go_enter Tryz.func112, Tryz.ntmps112
 go_wp2_with fail
 refine (zBb b B p _ H.out.st).mono ?_
 rintro e w1 ⟨rfl, h1, k1⟩
 have H1 := hid (H.out.word h1 k1)
 clear h1 k1
 unfold strV
 go_wp2_with fail
 refine (zCk b B (nmS p) _ H1.out.st).mono ?_
 rintro e w2 ⟨rfl, h2, k2⟩
 have H2 := hid (H1.out.word h2 k2)
 clear h2 k2
 go_wp2_with fail
 refine (zBg b B (noS 1 65535 (nmS p)) [112, 101, 114, 109, 105, 116] [100, 101, 110, 121] _ H2.out.st).mono ?_
 rintro e w3 ⟨rfl, h3, k3⟩
 have H3 := hid (H2.out.word h3 k3)
 clear h3 k3
 go_wp2_with (refine zAe rfl _ _ _ rfl rfl (ds := Cl.C ⟨(chB [112, 101, 114, 109, 105, 116] [100, 101, 110, 121] (noS 1 65535 (nmS p))), [], -1, -1, -1, -1, 0⟩) rfl (HasC.new _ _ _) rfl Tryz.sizeCl (Cl.one ⟨(chB [112, 101, 114, 109, 105, 116] [100, 101, 110, 121] (noS 1 65535 (nmS p))), [], -1, -1, -1, -1, 0⟩) ?_; intro w4 hx hg; have H4 := hid (RL.start H3.out hx hg); clear hx hg)
 have RZ : RL 88 131 g b B w0 (AlC a v) (AlR a v) (chS [112, 101, 114, 109, 105, 116] [100, 101, 110, 121] (noS 1 65535 (nmS p))) 101 w3.heap.size (Cl.C ⟨(chB [112, 101, 114, 109, 105, 116] [100, 101, 110, 121] (noS 1 65535 (nmS p))), [], -1, -1, -1, -1, 0⟩) w4 := H4.out
 have HZ := hid RZ
 clear RZ
 have cr : w4.cell? ⟨g, 26, none⟩ = .some v.maps := HZ.out.base.cell 26
 have cx0 : w4.cell? ⟨w3.heap.size, 0, none⟩ = .some (.bool (chB [112, 101, 114, 109, 105, 116] [100, 101, 110, 121] (noS 1 65535 (nmS p)))) := HZ.out.loc.cell 0
 have cx1 : w4.cell? ⟨w3.heap.size, 1, none⟩ = .some (strV []) := HZ.out.loc.cell 1
 have cx2 : w4.cell? ⟨w3.heap.size, 2, none⟩ = .some (.int .i64 (-1)) := HZ.out.loc.cell 2
 have cx3 : w4.cell? ⟨w3.heap.size, 3, none⟩ = .some (.int .i64 (-1)) := HZ.out.loc.cell 3
 have cx4 : w4.cell? ⟨w3.heap.size, 4, none⟩ = .some (.int .i64 (-1)) := HZ.out.loc.cell 4
 have cx5 : w4.cell? ⟨w3.heap.size, 5, none⟩ = .some (.int .i64 (-1)) := HZ.out.loc.cell 5
 have cx6 : w4.cell? ⟨w3.heap.size, 6, none⟩ = .some (.int .i64 0) := HZ.out.loc.cell 6
 have hRS : RS 88 131 g b B w0 (AlC a v) (((AlR a v).take 11 ++ rowsP v) ++ zAq 137 3 101 7 Cl.C v.maps v.mm ++ (rowsA v)) (chS [112, 101, 114, 109, 105, 116] [100, 101, 110, 121] (noS 1 65535 (nmS p))) w4.drew := by
  have h := (HZ.out.base.keep (zAv w4))
  have e : AlR a v = ((AlR a v).take 11 ++ rowsP v) ++ rowsM v ++ (rowsA v) := by simp [AlR]
  rw [e] at h
  exact h
 have HP := hid (putCl_any v.maps v.mm (nmV p) (noV 1 65535 (nmS p)) ⟨(chB [112, 101, 114, 109, 105, 116] [100, 101, 110, 121] (noS 1 65535 (nmS p))), [], -1, -1, -1, -1, 0⟩ ((chS [112, 101, 114, 109, 105, 116] [100, 101, 110, 121] (noS 1 65535 (nmS p)))) w4.drew hRS (by rw [← HL2.out]; exact HK.out.maps) (trivial))
 clear hRS
 skip
 go_region_law (go_simp; go_at_call 176; refine HP.out.mono ?_; rintro e w5 ⟨v5, ms5, m5, gi5, cap5, rfl, h5, hl5, hm5, hi5, hn5⟩; obtain ⟨A5, n5, d5, rfl⟩ := RS.form (pre := ((AlR a v).take 11 ++ rowsP v)) (post := ms5.flatMap (Lm.rows 3 101 7 Cl.C) ++ (rowsA v)) (v := v5) (by have := h5; unfold zAq at this; simpa using this); have H5 := hid h5; have HL5 := hid hl5; have HM5 := hid hm5; have HI5 := hid hi5; have HN5 := hid hn5; clear h5 hl5 hm5 hi5 hn5; obtain ⟨y26, c26⟩ := H5.out.some (j := 26) (show 26 < 31 from by decide); obtain ⟨y30, c30⟩ := H5.out.some (j := 30) (show 30 < 31 from by decide); obtain ⟨y28, c28⟩ := H5.out.some (j := 28) (show 28 < 31 from by decide); have fz := H5.out.frz)
 all_goals
  go_wp2_with fail
  go_end0
  rw [E.out]
  refine ⟨rfl, { v with maps := .slice A5 n5 d5, mm := ms5, clp := .pointer (some ⟨gi5, (putAt (nmV p) (noV 1 65535 (nmS p)) (v.mm.map Lm.ls)).2 * 7, none⟩) }, rows_maps (a := a) (v := v) (((H5.out.put 26 _ rfl).put 30 _ rfl).put 28 _ rfl), ⟨HL1.out, by rw [HL5.out, HL2.out], HL3.out⟩, fun h => absurd (show (2 : Int) = 1 from h) (by decide), fun _ => ⟨m5, gi5, cap5, ?_, HI5.out, ?_⟩⟩
  ·show ms5[(putAt (nmV p) (noV 1 65535 (nmS p)) a.maps).1]? = some m5
   rw [HL2.out]
   exact HM5.out
  ·show _ = Value.pointer (some ⟨gi5, (putAt (nmV p) (noV 1 65535 (nmS p)) a.maps).2 * 7, none⟩)
   rw [HL2.out]
def ac1 (p : Ps) := nmS p
def ac2 (p : Ps) := noS 1 65535 (ac1 p)
def ac3 (p : Ps) := chS [112, 101, 114, 109, 105, 116] [100, 101, 110, 121] (ac2 p)
def acy (p : Ps) := chB [112, 101, 114, 109, 105, 116] [100, 101, 110, 121] (ac2 p)
def acp (p : Ps) := protV (ac3 p)
def ac4 (p : Ps) := protS (ac3 p)
def acs (p : Ps) := wiV (ac4 p)
def ac5 (p : Ps) := wiS (ac4 p)
def acd (p : Ps) := wiV (ac5 p)
def ac6 (p : Ps) := wiS (ac5 p)
def ac7 (p : Ps) := poS (optS [102, 114, 111, 109] (ac6 p))
def ac8 (p : Ps) := poS (optS [116, 111] (ac7 p))
def ac9 (p : Ps) := poS (optS [116, 111] (ac6 p))
theorem accessRule_any (g b B : Nat) (w0 : World) (a : Al) (p : Ps) (w : World) (h : RA g b B w0 a p w) (hk : AlOk 1000000 a) (he : EnvA B w0) (hs : p.short) (hb : a.block = 0) :
  Calls Tryz.prog 113 #[.pointer (some ⟨g, 0, none⟩), .pointer (some ⟨b, 0, none⟩)] w (APost g b B w0 (zEp a p).1 (zEp a p).2) := by
 obtain ⟨v, h, hl, -, -⟩ := h
 obtain ⟨hl1, hl2, hl3⟩ := hl
 have H := hid h
 have HE := hid he
 have HS := hid hs
 have HK := hid hk
 have HL1 := hid hl1
 have HL2 := hid hl2
 have HL3 := hid hl3
 have HB0 := hid hb
 clear h he hs hk hl1 hl2 hl3 hb
 go_enter Tryz.func113, Tryz.ntmps113
 go_wp2_with fail
 refine (zBb b B p _ H.out.st).mono ?_
 rintro e w1 ⟨rfl, h1, k1⟩
 have H1 := hid (H.out.word h1 k1)
 clear h1 k1
 unfold strV
 go_wp2_with fail
 refine (zCk b B (ac1 p) _ H1.out.st).mono ?_
 rintro e w2 ⟨rfl, h2, k2⟩
 have H2 := hid (H1.out.word h2 k2)
 clear h2 k2
 go_wp2_with fail
 go_cut [7] (fun l0 wx => ∃ xb : Nat, l0 = .pointer (some ⟨xb, 0, none⟩) ∧ RL 88 131 g b B w0 (AlC a v) (AlR a v) (ac3 p) 110 xb (Ru.C ⟨(acy p), 0, 0, 0, 0, 0, 0, 65535, 0, 65535⟩) wx)
 case first =>
  have K3 : RL 88 131 g b B w0 (AlC a v) (AlR a v) (ac2 p) 108 w2.heap.size #[.int .i64 0, .int .i64 65535] (w2.alloc (.cells #[.int .i64 0, .int .i64 65535] 108)) := RL.start H2.out (HasC.new _ _ _) (World.grownBy.refl _ _)
  have H3 := hid K3
  clear K3
  generalize (w2.alloc (.cells #[.int .i64 0, .int .i64 65535] 108)) = w3 at H3 ⊢
  have ca0 : w3.drew.cell? ⟨w2.heap.size, 0, none⟩ = .some (.int .i64 0) := H3.out.loc.cell 0
  have ca1 : w3.drew.cell? ⟨w2.heap.size, 1, none⟩ = .some (.int .i64 65535) := H3.out.loc.cell 1
  have HD := hid (H3.out.keep (zAv w3))
  have hb3 : b < w3.heap.size := H3.out.base.b_lt
  have lt3 : w2.heap.size < w3.heap.size := zBp H3.out.loc
  have KA := hid (fun o => H3.out.keep (((Below.refl _ w3).alloc (Nat.le_refl _) o).trans ((zAv _).mono (by simp))))
  have KD := hid (fun o => HD.out.keep ((Below.refl _ w3.drew).alloc (Nat.le_refl _) o))
  have KT := hid (show ∀ o, (w3.drew.alloc o).cell? ⟨w2.heap.size, 0, none⟩ = .some (.int .i64 0) ∧ (w3.drew.alloc o).cell? ⟨w2.heap.size, 1, none⟩ = .some (.int .i64 65535) from fun o => ⟨(KD.out o).loc.cell 0, (KD.out o).loc.cell 1⟩)
  have KS := hid (show ∀ o, (w3.alloc o).drew.cell? ⟨w2.heap.size, 0, none⟩ = .some (.int .i64 0) ∧ (w3.alloc o).drew.cell? ⟨w2.heap.size, 1, none⟩ = .some (.int .i64 65535) from fun o => ⟨(KA.out o).loc.cell 0, (KA.out o).loc.cell 1⟩)
  have HCD : Hid (Calls Tryz.prog 148 #[.pointer (some ⟨b, 0, none⟩), .string ⟨#[112, 101, 114, 109, 105, 116]⟩, .string ⟨#[100, 101, 110, 121]⟩] w3.drew (WPost 131 b B (.bool (acy p)) (ac3 p) w3.drew)) := hid (zBg b B _ [112, 101, 114, 109, 105, 116] [100, 101, 110, 121] _ HD.out.base.st)
  have HCA : Hid (∀ o, Calls Tryz.prog 148 #[.pointer (some ⟨b, 0, none⟩), .string ⟨#[112, 101, 114, 109, 105, 116]⟩, .string ⟨#[100, 101, 110, 121]⟩] (w3.alloc o).drew (WPost 131 b B (.bool (acy p)) (ac3 p) (w3.alloc o).drew)) := hid (fun o => zBg b B _ [112, 101, 114, 109, 105, 116] [100, 101, 110, 121] _ (KA.out o).base.st)
  have KX := hid ((RL.start H3.out.base (HasC.new w3 110 #[.bool false, .int .i64 0, .int .u32 0, .int .u32 0, .int .u32 0, .int .u32 0, .int .i64 0, .int .i64 0, .int .i64 0, .int .i64 0]) (World.grownBy.refl _ _)).keep (zAv _))
  go_region_held3 (fun w' => w'.cell? ⟨w2.heap.size, 0, none⟩ = .some (.int .i64 0) ∧ w'.cell? ⟨w2.heap.size, 1, none⟩ = .some (.int .i64 65535)) (first | (with_reducible exact ⟨ca0, ca1⟩) | (with_reducible exact S4.out) | (with_reducible exact S5.out _) | (with_reducible exact KS.out _) | (with_reducible exact KT.out _) | (refine ⟨?_, ?_⟩ <;> (repeat rw [World.cell?_setCell_other _ _ _ _ (by intro h; simp only [Addr.mk.injEq] at h; omega)]) <;> first | exact S4.out.1 | exact S4.out.2)) ((go_simp; go_at_call 148; first | ((with_reducible refine HCD.out.mono ?_); rintro e w4 ⟨rfl, h4, k4⟩; have HC4 := hid (HD.out.word h4 k4); have KB := hid (fun o => HC4.out.keep ((Below.refl _ w4).alloc (Nat.le_refl _) o)); have S4 := hid (show w4.cell? ⟨w2.heap.size, 0, none⟩ = .some (.int .i64 0) ∧ w4.cell? ⟨w2.heap.size, 1, none⟩ = .some (.int .i64 65535) from ⟨HC4.out.loc.cell 0, HC4.out.loc.cell 1⟩); have S5 := hid (show ∀ o, (w4.alloc o).cell? ⟨w2.heap.size, 0, none⟩ = .some (.int .i64 0) ∧ (w4.alloc o).cell? ⟨w2.heap.size, 1, none⟩ = .some (.int .i64 65535) from fun o => ⟨(KB.out o).loc.cell 0, (KB.out o).loc.cell 1⟩); have HX4 := hid HC4.out; clear h4 k4) | ((with_reducible refine (HCA.out _).mono ?_); rintro e w4 ⟨rfl, h4, k4⟩; have HC4 := hid ((KA.out _).word h4 k4); have HX4 := hid (KX.out.word h4 k4); have e0 : w4.cell? ⟨w3.heap.size, 0, none⟩ = .some (.bool false) := HX4.out.loc.cell 0; have e1 : w4.cell? ⟨w3.heap.size, 1, none⟩ = .some (.int .i64 0) := HX4.out.loc.cell 1; have e2 : w4.cell? ⟨w3.heap.size, 2, none⟩ = .some (.int .u32 0) := HX4.out.loc.cell 2; have e3 : w4.cell? ⟨w3.heap.size, 3, none⟩ = .some (.int .u32 0) := HX4.out.loc.cell 3; have e4 : w4.cell? ⟨w3.heap.size, 4, none⟩ = .some (.int .u32 0) := HX4.out.loc.cell 4; have e5 : w4.cell? ⟨w3.heap.size, 5, none⟩ = .some (.int .u32 0) := HX4.out.loc.cell 5; have e6 : w4.cell? ⟨w3.heap.size, 6, none⟩ = .some (.int .i64 0) := HX4.out.loc.cell 6; have e7 : w4.cell? ⟨w3.heap.size, 7, none⟩ = .some (.int .i64 0) := HX4.out.loc.cell 7; have e8 : w4.cell? ⟨w3.heap.size, 8, none⟩ = .some (.int .i64 0) := HX4.out.loc.cell 8; have e9 : w4.cell? ⟨w3.heap.size, 9, none⟩ = .some (.int .i64 0) := HX4.out.loc.cell 9; have fz := HX4.out.loc.frz; have S4 := hid (show w4.cell? ⟨w2.heap.size, 0, none⟩ = .some (.int .i64 0) ∧ w4.cell? ⟨w2.heap.size, 1, none⟩ = .some (.int .i64 65535) from ⟨HC4.out.loc.cell 0, HC4.out.loc.cell 1⟩); clear h4 k4)))
  ·go_wp2_with fail
   go_meet
   exact ⟨w4.heap.size, rfl, RL.start HC4.out.base (HasC.new _ _ _) (World.grownBy.refl _ _)⟩
  ·go_wp2_with fail
   go_meet
   exact ⟨w3.heap.size, rfl, ((((((((((HX4.out.put (cl' := #[.bool (acy p), .int .i64 0, .int .u32 0, .int .u32 0, .int .u32 0, .int .u32 0, .int .i64 0, .int .i64 0, .int .i64 0, .int .i64 0]) 0 (.bool (acy p)) rfl).put (cl' := #[.bool (acy p), .int .i64 0, .int .u32 0, .int .u32 0, .int .u32 0, .int .u32 0, .int .i64 0, .int .i64 0, .int .i64 0, .int .i64 0]) 1 (.int .i64 0) rfl).put (cl' := #[.bool (acy p), .int .i64 0, .int .u32 0, .int .u32 0, .int .u32 0, .int .u32 0, .int .i64 0, .int .i64 0, .int .i64 0, .int .i64 0]) 2 (.int .u32 0) rfl).put (cl' := #[.bool (acy p), .int .i64 0, .int .u32 0, .int .u32 0, .int .u32 0, .int .u32 0, .int .i64 0, .int .i64 0, .int .i64 0, .int .i64 0]) 3 (.int .u32 0) rfl).put (cl' := #[.bool (acy p), .int .i64 0, .int .u32 0, .int .u32 0, .int .u32 0, .int .u32 0, .int .i64 0, .int .i64 0, .int .i64 0, .int .i64 0]) 4 (.int .u32 0) rfl).put (cl' := #[.bool (acy p), .int .i64 0, .int .u32 0, .int .u32 0, .int .u32 0, .int .u32 0, .int .i64 0, .int .i64 0, .int .i64 0, .int .i64 0]) 5 (.int .u32 0) rfl).put (cl' := #[.bool (acy p), .int .i64 0, .int .u32 0, .int .u32 0, .int .u32 0, .int .u32 0, .int .i64 0, .int .i64 0, .int .i64 0, .int .i64 0]) 6 (.int .i64 0) rfl).put (cl' := #[.bool (acy p), .int .i64 0, .int .u32 0, .int .u32 0, .int .u32 0, .int .u32 0, .int .i64 0, .int .i64 65535, .int .i64 0, .int .i64 0]) 7 (.int .i64 65535) rfl).put (cl' := #[.bool (acy p), .int .i64 0, .int .u32 0, .int .u32 0, .int .u32 0, .int .u32 0, .int .i64 0, .int .i64 65535, .int .i64 0, .int .i64 0]) 8 (.int .i64 0) rfl).put (cl' := #[.bool (acy p), .int .i64 0, .int .u32 0, .int .u32 0, .int .u32 0, .int .u32 0, .int .i64 0, .int .i64 65535, .int .i64 0, .int .i64 65535]) 9 (.int .i64 65535) rfl)⟩
 case rest =>
  obtain ⟨xb, rfl, R⟩ := hcut
  have HX := hid R
  clear R
  cases cf : isW [102, 114, 111, 109] (ac6 p) with
  | true =>
   cases ct : isW [116, 111] (ac7 p) with
   | true =>
    have E : Hid (zEp a p = ({ a with acls := putL (nmV p) (noV 1 65535 (ac1 p)) ⟨(acy p), (acp p), (acs p).1, (acs p).2, (acd p).1, (acd p).2, (poV (optS [102, 114, 111, 109] (ac6 p))).1, (poV (optS [102, 114, 111, 109] (ac6 p))).2, (poV (optS [116, 111] (ac7 p))).1, (poV (optS [116, 111] (ac7 p))).2⟩ a.acls }, (ac8 p))) := hid (by have cf2 : isW [102, 114, 111, 109] (wiS (wiS (protS (chS [112, 101, 114, 109, 105, 116] [100, 101, 110, 121] (noS 1 65535 (nmS p)))))) = true := cf; have ct2 : isW [116, 111] (poS (optS [102, 114, 111, 109] (wiS (wiS (protS (chS [112, 101, 114, 109, 105, 116] [100, 101, 110, 121] (noS 1 65535 (nmS p)))))))) = true := ct; unfold zEp; dsimp only; simp only [cf2, ct2, if_true]; rfl)
    have CF := hid cf
    have CT := hid ct
    clear cf ct
    go_wp2_with fail
    refine (zFh b B (ac3 p) _ HX.out.base.st).mono ?_
    rintro e w5 ⟨rfl, h5, k5⟩
    have H5 := hid (HX.out.word h5 k5)
    clear h5 k5
    obtain ⟨y1, c1⟩ := H5.out.lsome (j := 1) (show 1 < 10 from by decide)
    have fz := H5.out.lfrz
    go_wp2_with fail
    refine (zCw b B (ac4 p) _ (H5.out.put (cl' := #[.bool (acy p), .int .i64 (acp p), .int .u32 0, .int .u32 0, .int .u32 0, .int .u32 0, .int .i64 0, .int .i64 65535, .int .i64 0, .int .i64 65535]) 1 (.int .i64 (acp p)) rfl).base.st ((H5.out.put (cl' := #[.bool (acy p), .int .i64 (acp p), .int .u32 0, .int .u32 0, .int .u32 0, .int .u32 0, .int .i64 0, .int .i64 65535, .int .i64 0, .int .i64 65535]) 1 (.int .i64 (acp p)) rfl).env HE.out) (zCt ((zCc _ _ (zCb _ _ (zCp HS.out)))))).mono ?_
    rintro e w6 ⟨rfl, h6, k6⟩
    have H6 := hid ((H5.out.put (cl' := #[.bool (acy p), .int .i64 (acp p), .int .u32 0, .int .u32 0, .int .u32 0, .int .u32 0, .int .i64 0, .int .i64 65535, .int .i64 0, .int .i64 65535]) 1 (.int .i64 (acp p)) rfl).word h6 k6)
    clear h6 k6
    obtain ⟨y2, c2⟩ := H6.out.lsome (j := 2) (show 2 < 10 from by decide)
    obtain ⟨y3, c3⟩ := H6.out.lsome (j := 3) (show 3 < 10 from by decide)
    have fz := H6.out.lfrz
    go_wp2_with fail
    refine (zCw b B (ac5 p) _ ((H6.out.put (cl' := #[.bool (acy p), .int .i64 (acp p), .int .u32 ((acs p).1 : Int), .int .u32 0, .int .u32 0, .int .u32 0, .int .i64 0, .int .i64 65535, .int .i64 0, .int .i64 65535]) 2 (.int .u32 ((acs p).1 : Int)) rfl).put (cl' := #[.bool (acy p), .int .i64 (acp p), .int .u32 ((acs p).1 : Int), .int .u32 ((acs p).2 : Int), .int .u32 0, .int .u32 0, .int .i64 0, .int .i64 65535, .int .i64 0, .int .i64 65535]) 3 (.int .u32 ((acs p).2 : Int)) rfl).base.st (((H6.out.put (cl' := #[.bool (acy p), .int .i64 (acp p), .int .u32 ((acs p).1 : Int), .int .u32 0, .int .u32 0, .int .u32 0, .int .i64 0, .int .i64 65535, .int .i64 0, .int .i64 65535]) 2 (.int .u32 ((acs p).1 : Int)) rfl).put (cl' := #[.bool (acy p), .int .i64 (acp p), .int .u32 ((acs p).1 : Int), .int .u32 ((acs p).2 : Int), .int .u32 0, .int .u32 0, .int .i64 0, .int .i64 65535, .int .i64 0, .int .i64 65535]) 3 (.int .u32 ((acs p).2 : Int)) rfl).env HE.out) (zEc (zCt ((zCc _ _ (zCb _ _ (zCp HS.out))))))).mono ?_
    rintro e w7 ⟨rfl, h7, k7⟩
    have H7 := hid (((H6.out.put (cl' := #[.bool (acy p), .int .i64 (acp p), .int .u32 ((acs p).1 : Int), .int .u32 0, .int .u32 0, .int .u32 0, .int .i64 0, .int .i64 65535, .int .i64 0, .int .i64 65535]) 2 (.int .u32 ((acs p).1 : Int)) rfl).put (cl' := #[.bool (acy p), .int .i64 (acp p), .int .u32 ((acs p).1 : Int), .int .u32 ((acs p).2 : Int), .int .u32 0, .int .u32 0, .int .i64 0, .int .i64 65535, .int .i64 0, .int .i64 65535]) 3 (.int .u32 ((acs p).2 : Int)) rfl).word h7 k7)
    clear h7 k7
    obtain ⟨y4, c4⟩ := H7.out.lsome (j := 4) (show 4 < 10 from by decide)
    obtain ⟨y5, c5⟩ := H7.out.lsome (j := 5) (show 5 < 10 from by decide)
    have fz := H7.out.lfrz
    go_wp2_with fail
    refine (zAl b B (ac6 p) [102, 114, 111, 109] _ ((H7.out.put (cl' := #[.bool (acy p), .int .i64 (acp p), .int .u32 ((acs p).1 : Int), .int .u32 ((acs p).2 : Int), .int .u32 ((acd p).1 : Int), .int .u32 0, .int .i64 0, .int .i64 65535, .int .i64 0, .int .i64 65535]) 4 (.int .u32 ((acd p).1 : Int)) rfl).put (cl' := #[.bool (acy p), .int .i64 (acp p), .int .u32 ((acs p).1 : Int), .int .u32 ((acs p).2 : Int), .int .u32 ((acd p).1 : Int), .int .u32 ((acd p).2 : Int), .int .i64 0, .int .i64 65535, .int .i64 0, .int .i64 65535]) 5 (.int .u32 ((acd p).2 : Int)) rfl).base.st).mono ?_
    rintro e w8 ⟨rfl, h8, k8⟩
    have H8 := hid (((H7.out.put (cl' := #[.bool (acy p), .int .i64 (acp p), .int .u32 ((acs p).1 : Int), .int .u32 ((acs p).2 : Int), .int .u32 ((acd p).1 : Int), .int .u32 0, .int .i64 0, .int .i64 65535, .int .i64 0, .int .i64 65535]) 4 (.int .u32 ((acd p).1 : Int)) rfl).put (cl' := #[.bool (acy p), .int .i64 (acp p), .int .u32 ((acs p).1 : Int), .int .u32 ((acs p).2 : Int), .int .u32 ((acd p).1 : Int), .int .u32 ((acd p).2 : Int), .int .i64 0, .int .i64 65535, .int .i64 0, .int .i64 65535]) 5 (.int .u32 ((acd p).2 : Int)) rfl).word h8 k8)
    clear h8 k8
    rw [CF.out]
    go_wp2_with fail
    refine (zHt b B (optS [102, 114, 111, 109] (ac6 p)) _ H8.out.base.st (H8.out.env HE.out) (zGm _ (zEc (zEc (zCt ((zCc _ _ (zCb _ _ (zCp HS.out))))))))).mono ?_
    rintro e w9 ⟨rfl, h9, k9⟩
    have H9 := hid (H8.out.word h9 k9)
    clear h9 k9
    obtain ⟨y6, c6⟩ := H9.out.lsome (j := 6) (show 6 < 10 from by decide)
    obtain ⟨y7, c7⟩ := H9.out.lsome (j := 7) (show 7 < 10 from by decide)
    have fz := H9.out.lfrz
    go_wp2_with fail
    refine (zAl b B (ac7 p) [116, 111] _ ((H9.out.put (cl' := #[.bool (acy p), .int .i64 (acp p), .int .u32 ((acs p).1 : Int), .int .u32 ((acs p).2 : Int), .int .u32 ((acd p).1 : Int), .int .u32 ((acd p).2 : Int), .int .i64 (poV (optS [102, 114, 111, 109] (ac6 p))).1, .int .i64 65535, .int .i64 0, .int .i64 65535]) 6 (.int .i64 (poV (optS [102, 114, 111, 109] (ac6 p))).1) rfl).put (cl' := #[.bool (acy p), .int .i64 (acp p), .int .u32 ((acs p).1 : Int), .int .u32 ((acs p).2 : Int), .int .u32 ((acd p).1 : Int), .int .u32 ((acd p).2 : Int), .int .i64 (poV (optS [102, 114, 111, 109] (ac6 p))).1, .int .i64 (poV (optS [102, 114, 111, 109] (ac6 p))).2, .int .i64 0, .int .i64 65535]) 7 (.int .i64 (poV (optS [102, 114, 111, 109] (ac6 p))).2) rfl).base.st).mono ?_
    rintro e w10 ⟨rfl, h10, k10⟩
    have H10 := hid (((H9.out.put (cl' := #[.bool (acy p), .int .i64 (acp p), .int .u32 ((acs p).1 : Int), .int .u32 ((acs p).2 : Int), .int .u32 ((acd p).1 : Int), .int .u32 ((acd p).2 : Int), .int .i64 (poV (optS [102, 114, 111, 109] (ac6 p))).1, .int .i64 65535, .int .i64 0, .int .i64 65535]) 6 (.int .i64 (poV (optS [102, 114, 111, 109] (ac6 p))).1) rfl).put (cl' := #[.bool (acy p), .int .i64 (acp p), .int .u32 ((acs p).1 : Int), .int .u32 ((acs p).2 : Int), .int .u32 ((acd p).1 : Int), .int .u32 ((acd p).2 : Int), .int .i64 (poV (optS [102, 114, 111, 109] (ac6 p))).1, .int .i64 (poV (optS [102, 114, 111, 109] (ac6 p))).2, .int .i64 0, .int .i64 65535]) 7 (.int .i64 (poV (optS [102, 114, 111, 109] (ac6 p))).2) rfl).word h10 k10)
    clear h10 k10
    rw [CT.out]
    go_wp2_with fail
    refine (zHt b B (optS [116, 111] (ac7 p)) _ H10.out.base.st (H10.out.env HE.out) (zGm _ (short_po (zGm _ (zEc (zEc (zCt ((zCc _ _ (zCb _ _ (zCp HS.out))))))))))).mono ?_
    rintro e w11 ⟨rfl, h11, k11⟩
    have H11 := hid (H10.out.word h11 k11)
    clear h11 k11
    obtain ⟨y8, c8⟩ := H11.out.lsome (j := 8) (show 8 < 10 from by decide)
    obtain ⟨y9, c9⟩ := H11.out.lsome (j := 9) (show 9 < 10 from by decide)
    have fz := H11.out.lfrz
    go_wp2_with fail
    have RZ : RL 88 131 g b B w0 (AlC a v) (AlR a v) (ac8 p) 110 xb (Ru.C ⟨(acy p), (acp p), (acs p).1, (acs p).2, (acd p).1, (acd p).2, (poV (optS [102, 114, 111, 109] (ac6 p))).1, (poV (optS [102, 114, 111, 109] (ac6 p))).2, (poV (optS [116, 111] (ac7 p))).1, (poV (optS [116, 111] (ac7 p))).2⟩) ((w11.setCell ⟨xb, 8, none⟩ (.int .i64 (poV (optS [116, 111] (ac7 p))).1)).setCell ⟨xb, 9, none⟩ (.int .i64 (poV (optS [116, 111] (ac7 p))).2)) := ((H11.out.put (cl' := #[.bool (acy p), .int .i64 (acp p), .int .u32 ((acs p).1 : Int), .int .u32 ((acs p).2 : Int), .int .u32 ((acd p).1 : Int), .int .u32 ((acd p).2 : Int), .int .i64 (poV (optS [102, 114, 111, 109] (ac6 p))).1, .int .i64 (poV (optS [102, 114, 111, 109] (ac6 p))).2, .int .i64 (poV (optS [116, 111] (ac7 p))).1, .int .i64 65535]) 8 (.int .i64 (poV (optS [116, 111] (ac7 p))).1) rfl).put (cl' := #[.bool (acy p), .int .i64 (acp p), .int .u32 ((acs p).1 : Int), .int .u32 ((acs p).2 : Int), .int .u32 ((acd p).1 : Int), .int .u32 ((acd p).2 : Int), .int .i64 (poV (optS [102, 114, 111, 109] (ac6 p))).1, .int .i64 (poV (optS [102, 114, 111, 109] (ac6 p))).2, .int .i64 (poV (optS [116, 111] (ac7 p))).1, .int .i64 (poV (optS [116, 111] (ac7 p))).2]) 9 (.int .i64 (poV (optS [116, 111] (ac7 p))).2) rfl)
    have HZ := hid RZ
    clear RZ
    generalize ((w11.setCell ⟨xb, 8, none⟩ (.int .i64 (poV (optS [116, 111] (ac7 p))).1)).setCell ⟨xb, 9, none⟩ (.int .i64 (poV (optS [116, 111] (ac7 p))).2)) = wz at HZ ⊢
    have cr : wz.cell? ⟨g, 27, none⟩ = .some v.acls := HZ.out.base.cell 27
    have cx0 : wz.cell? ⟨xb, 0, none⟩ = .some (.bool (acy p)) := HZ.out.loc.cell 0
    have cx1 : wz.cell? ⟨xb, 1, none⟩ = .some (.int .i64 (acp p)) := HZ.out.loc.cell 1
    have cx2 : wz.cell? ⟨xb, 2, none⟩ = .some (.int .u32 ((acs p).1 : Int)) := HZ.out.loc.cell 2
    have cx3 : wz.cell? ⟨xb, 3, none⟩ = .some (.int .u32 ((acs p).2 : Int)) := HZ.out.loc.cell 3
    have cx4 : wz.cell? ⟨xb, 4, none⟩ = .some (.int .u32 ((acd p).1 : Int)) := HZ.out.loc.cell 4
    have cx5 : wz.cell? ⟨xb, 5, none⟩ = .some (.int .u32 ((acd p).2 : Int)) := HZ.out.loc.cell 5
    have cx6 : wz.cell? ⟨xb, 6, none⟩ = .some (.int .i64 (poV (optS [102, 114, 111, 109] (ac6 p))).1) := HZ.out.loc.cell 6
    have cx7 : wz.cell? ⟨xb, 7, none⟩ = .some (.int .i64 (poV (optS [102, 114, 111, 109] (ac6 p))).2) := HZ.out.loc.cell 7
    have cx8 : wz.cell? ⟨xb, 8, none⟩ = .some (.int .i64 (poV (optS [116, 111] (ac7 p))).1) := HZ.out.loc.cell 8
    have cx9 : wz.cell? ⟨xb, 9, none⟩ = .some (.int .i64 (poV (optS [116, 111] (ac7 p))).2) := HZ.out.loc.cell 9
    have hRS : RS 88 131 g b B w0 (AlC a v) (((AlR a v).take 11 ++ rowsP v ++ rowsM v) ++ zAq 139 3 110 10 Ru.C v.acls v.am ++ ([])) (ac8 p) wz.drew := by
     have h := (HZ.out.base.keep (zAv wz))
     have e : AlR a v = ((AlR a v).take 11 ++ rowsP v ++ rowsM v) ++ rowsA v ++ ([]) := by simp [AlR]
     rw [e] at h
     exact h
    have HP := hid (zJn v.acls v.am (nmV p) (noV 1 65535 (ac1 p)) ⟨(acy p), (acp p), (acs p).1, (acs p).2, (acd p).1, (acd p).2, (poV (optS [102, 114, 111, 109] (ac6 p))).1, (poV (optS [102, 114, 111, 109] (ac6 p))).2, (poV (optS [116, 111] (ac7 p))).1, (poV (optS [116, 111] (ac7 p))).2⟩ ((ac8 p)) wz.drew hRS (by rw [← HL3.out]; exact HK.out.acls) (⟨(zEd _).1, (zEd _).2, (zEd _).1, (zEd _).2⟩))
    clear hRS
    skip
    go_region_law (go_simp; go_at_call 180; refine HP.out.mono ?_; rintro e w5 ⟨v5, ms5, m5, gi5, cap5, rfl, h5, hl5, hm5, hi5, hn5⟩; obtain ⟨A5, n5, d5, rfl⟩ := RS.form (pre := ((AlR a v).take 11 ++ rowsP v ++ rowsM v)) (post := ms5.flatMap (Lm.rows 3 110 10 Ru.C) ++ ([])) (v := v5) (by have := h5; unfold zAq at this; simpa using this); have H5 := hid h5; have HL5 := hid hl5; have HM5 := hid hm5; have HI5 := hid hi5; have HN5 := hid hn5; clear h5 hl5 hm5 hi5 hn5; obtain ⟨y27, c27⟩ := H5.out.some (j := 27) (show 27 < 31 from by decide); have fz := H5.out.frz)
    all_goals
     go_wp2_with fail
     go_end0
     rw [E.out]
     exact ⟨rfl, { v with acls := .slice A5 n5 d5, am := ms5 }, zHk (a := a) (v := v) (H5.out.put 27 _ rfl), ⟨HL1.out, HL2.out, by rw [HL5.out, HL3.out]⟩, (fun h => by have := HB0.out; rw [show a.block = 1 from h] at this; exact absurd this (by decide)), (fun h => by have := HB0.out; rw [show a.block = 2 from h] at this; exact absurd this (by decide))⟩
   | false =>
    have E : Hid (zEp a p = ({ a with acls := putL (nmV p) (noV 1 65535 (ac1 p)) ⟨(acy p), (acp p), (acs p).1, (acs p).2, (acd p).1, (acd p).2, (poV (optS [102, 114, 111, 109] (ac6 p))).1, (poV (optS [102, 114, 111, 109] (ac6 p))).2, 0, 65535⟩ a.acls }, (ac7 p))) := hid (by have cf2 : isW [102, 114, 111, 109] (wiS (wiS (protS (chS [112, 101, 114, 109, 105, 116] [100, 101, 110, 121] (noS 1 65535 (nmS p)))))) = true := cf; have ct2 : isW [116, 111] (poS (optS [102, 114, 111, 109] (wiS (wiS (protS (chS [112, 101, 114, 109, 105, 116] [100, 101, 110, 121] (noS 1 65535 (nmS p)))))))) = false := ct; unfold zEp; dsimp only; simp only [cf2, ct2, if_true, Bool.false_eq_true, if_false]; rfl)
    have CF := hid cf
    have CT := hid ct
    clear cf ct
    go_wp2_with fail
    refine (zFh b B (ac3 p) _ HX.out.base.st).mono ?_
    rintro e w5 ⟨rfl, h5, k5⟩
    have H5 := hid (HX.out.word h5 k5)
    clear h5 k5
    obtain ⟨y1, c1⟩ := H5.out.lsome (j := 1) (show 1 < 10 from by decide)
    have fz := H5.out.lfrz
    go_wp2_with fail
    refine (zCw b B (ac4 p) _ (H5.out.put (cl' := #[.bool (acy p), .int .i64 (acp p), .int .u32 0, .int .u32 0, .int .u32 0, .int .u32 0, .int .i64 0, .int .i64 65535, .int .i64 0, .int .i64 65535]) 1 (.int .i64 (acp p)) rfl).base.st ((H5.out.put (cl' := #[.bool (acy p), .int .i64 (acp p), .int .u32 0, .int .u32 0, .int .u32 0, .int .u32 0, .int .i64 0, .int .i64 65535, .int .i64 0, .int .i64 65535]) 1 (.int .i64 (acp p)) rfl).env HE.out) (zCt ((zCc _ _ (zCb _ _ (zCp HS.out)))))).mono ?_
    rintro e w6 ⟨rfl, h6, k6⟩
    have H6 := hid ((H5.out.put (cl' := #[.bool (acy p), .int .i64 (acp p), .int .u32 0, .int .u32 0, .int .u32 0, .int .u32 0, .int .i64 0, .int .i64 65535, .int .i64 0, .int .i64 65535]) 1 (.int .i64 (acp p)) rfl).word h6 k6)
    clear h6 k6
    obtain ⟨y2, c2⟩ := H6.out.lsome (j := 2) (show 2 < 10 from by decide)
    obtain ⟨y3, c3⟩ := H6.out.lsome (j := 3) (show 3 < 10 from by decide)
    have fz := H6.out.lfrz
    go_wp2_with fail
    refine (zCw b B (ac5 p) _ ((H6.out.put (cl' := #[.bool (acy p), .int .i64 (acp p), .int .u32 ((acs p).1 : Int), .int .u32 0, .int .u32 0, .int .u32 0, .int .i64 0, .int .i64 65535, .int .i64 0, .int .i64 65535]) 2 (.int .u32 ((acs p).1 : Int)) rfl).put (cl' := #[.bool (acy p), .int .i64 (acp p), .int .u32 ((acs p).1 : Int), .int .u32 ((acs p).2 : Int), .int .u32 0, .int .u32 0, .int .i64 0, .int .i64 65535, .int .i64 0, .int .i64 65535]) 3 (.int .u32 ((acs p).2 : Int)) rfl).base.st (((H6.out.put (cl' := #[.bool (acy p), .int .i64 (acp p), .int .u32 ((acs p).1 : Int), .int .u32 0, .int .u32 0, .int .u32 0, .int .i64 0, .int .i64 65535, .int .i64 0, .int .i64 65535]) 2 (.int .u32 ((acs p).1 : Int)) rfl).put (cl' := #[.bool (acy p), .int .i64 (acp p), .int .u32 ((acs p).1 : Int), .int .u32 ((acs p).2 : Int), .int .u32 0, .int .u32 0, .int .i64 0, .int .i64 65535, .int .i64 0, .int .i64 65535]) 3 (.int .u32 ((acs p).2 : Int)) rfl).env HE.out) (zEc (zCt ((zCc _ _ (zCb _ _ (zCp HS.out))))))).mono ?_
    rintro e w7 ⟨rfl, h7, k7⟩
    have H7 := hid (((H6.out.put (cl' := #[.bool (acy p), .int .i64 (acp p), .int .u32 ((acs p).1 : Int), .int .u32 0, .int .u32 0, .int .u32 0, .int .i64 0, .int .i64 65535, .int .i64 0, .int .i64 65535]) 2 (.int .u32 ((acs p).1 : Int)) rfl).put (cl' := #[.bool (acy p), .int .i64 (acp p), .int .u32 ((acs p).1 : Int), .int .u32 ((acs p).2 : Int), .int .u32 0, .int .u32 0, .int .i64 0, .int .i64 65535, .int .i64 0, .int .i64 65535]) 3 (.int .u32 ((acs p).2 : Int)) rfl).word h7 k7)
    clear h7 k7
    obtain ⟨y4, c4⟩ := H7.out.lsome (j := 4) (show 4 < 10 from by decide)
    obtain ⟨y5, c5⟩ := H7.out.lsome (j := 5) (show 5 < 10 from by decide)
    have fz := H7.out.lfrz
    go_wp2_with fail
    refine (zAl b B (ac6 p) [102, 114, 111, 109] _ ((H7.out.put (cl' := #[.bool (acy p), .int .i64 (acp p), .int .u32 ((acs p).1 : Int), .int .u32 ((acs p).2 : Int), .int .u32 ((acd p).1 : Int), .int .u32 0, .int .i64 0, .int .i64 65535, .int .i64 0, .int .i64 65535]) 4 (.int .u32 ((acd p).1 : Int)) rfl).put (cl' := #[.bool (acy p), .int .i64 (acp p), .int .u32 ((acs p).1 : Int), .int .u32 ((acs p).2 : Int), .int .u32 ((acd p).1 : Int), .int .u32 ((acd p).2 : Int), .int .i64 0, .int .i64 65535, .int .i64 0, .int .i64 65535]) 5 (.int .u32 ((acd p).2 : Int)) rfl).base.st).mono ?_
    rintro e w8 ⟨rfl, h8, k8⟩
    have H8 := hid (((H7.out.put (cl' := #[.bool (acy p), .int .i64 (acp p), .int .u32 ((acs p).1 : Int), .int .u32 ((acs p).2 : Int), .int .u32 ((acd p).1 : Int), .int .u32 0, .int .i64 0, .int .i64 65535, .int .i64 0, .int .i64 65535]) 4 (.int .u32 ((acd p).1 : Int)) rfl).put (cl' := #[.bool (acy p), .int .i64 (acp p), .int .u32 ((acs p).1 : Int), .int .u32 ((acs p).2 : Int), .int .u32 ((acd p).1 : Int), .int .u32 ((acd p).2 : Int), .int .i64 0, .int .i64 65535, .int .i64 0, .int .i64 65535]) 5 (.int .u32 ((acd p).2 : Int)) rfl).word h8 k8)
    clear h8 k8
    rw [CF.out]
    go_wp2_with fail
    refine (zHt b B (optS [102, 114, 111, 109] (ac6 p)) _ H8.out.base.st (H8.out.env HE.out) (zGm _ (zEc (zEc (zCt ((zCc _ _ (zCb _ _ (zCp HS.out))))))))).mono ?_
    rintro e w9 ⟨rfl, h9, k9⟩
    have H9 := hid (H8.out.word h9 k9)
    clear h9 k9
    obtain ⟨y6, c6⟩ := H9.out.lsome (j := 6) (show 6 < 10 from by decide)
    obtain ⟨y7, c7⟩ := H9.out.lsome (j := 7) (show 7 < 10 from by decide)
    have fz := H9.out.lfrz
    go_wp2_with fail
    refine (zAl b B (ac7 p) [116, 111] _ ((H9.out.put (cl' := #[.bool (acy p), .int .i64 (acp p), .int .u32 ((acs p).1 : Int), .int .u32 ((acs p).2 : Int), .int .u32 ((acd p).1 : Int), .int .u32 ((acd p).2 : Int), .int .i64 (poV (optS [102, 114, 111, 109] (ac6 p))).1, .int .i64 65535, .int .i64 0, .int .i64 65535]) 6 (.int .i64 (poV (optS [102, 114, 111, 109] (ac6 p))).1) rfl).put (cl' := #[.bool (acy p), .int .i64 (acp p), .int .u32 ((acs p).1 : Int), .int .u32 ((acs p).2 : Int), .int .u32 ((acd p).1 : Int), .int .u32 ((acd p).2 : Int), .int .i64 (poV (optS [102, 114, 111, 109] (ac6 p))).1, .int .i64 (poV (optS [102, 114, 111, 109] (ac6 p))).2, .int .i64 0, .int .i64 65535]) 7 (.int .i64 (poV (optS [102, 114, 111, 109] (ac6 p))).2) rfl).base.st).mono ?_
    rintro e w10 ⟨rfl, h10, k10⟩
    rw [zBx CT.out] at h10
    have H10 := hid (((H9.out.put (cl' := #[.bool (acy p), .int .i64 (acp p), .int .u32 ((acs p).1 : Int), .int .u32 ((acs p).2 : Int), .int .u32 ((acd p).1 : Int), .int .u32 ((acd p).2 : Int), .int .i64 (poV (optS [102, 114, 111, 109] (ac6 p))).1, .int .i64 65535, .int .i64 0, .int .i64 65535]) 6 (.int .i64 (poV (optS [102, 114, 111, 109] (ac6 p))).1) rfl).put (cl' := #[.bool (acy p), .int .i64 (acp p), .int .u32 ((acs p).1 : Int), .int .u32 ((acs p).2 : Int), .int .u32 ((acd p).1 : Int), .int .u32 ((acd p).2 : Int), .int .i64 (poV (optS [102, 114, 111, 109] (ac6 p))).1, .int .i64 (poV (optS [102, 114, 111, 109] (ac6 p))).2, .int .i64 0, .int .i64 65535]) 7 (.int .i64 (poV (optS [102, 114, 111, 109] (ac6 p))).2) rfl).word h10 k10)
    clear h10 k10
    rw [CT.out]
    go_wp2_with fail
    have RZ : RL 88 131 g b B w0 (AlC a v) (AlR a v) (ac7 p) 110 xb (Ru.C ⟨(acy p), (acp p), (acs p).1, (acs p).2, (acd p).1, (acd p).2, (poV (optS [102, 114, 111, 109] (ac6 p))).1, (poV (optS [102, 114, 111, 109] (ac6 p))).2, 0, 65535⟩) w10 := H10.out
    have HZ := hid RZ
    clear RZ
    have cr : w10.cell? ⟨g, 27, none⟩ = .some v.acls := HZ.out.base.cell 27
    have cx0 : w10.cell? ⟨xb, 0, none⟩ = .some (.bool (acy p)) := HZ.out.loc.cell 0
    have cx1 : w10.cell? ⟨xb, 1, none⟩ = .some (.int .i64 (acp p)) := HZ.out.loc.cell 1
    have cx2 : w10.cell? ⟨xb, 2, none⟩ = .some (.int .u32 ((acs p).1 : Int)) := HZ.out.loc.cell 2
    have cx3 : w10.cell? ⟨xb, 3, none⟩ = .some (.int .u32 ((acs p).2 : Int)) := HZ.out.loc.cell 3
    have cx4 : w10.cell? ⟨xb, 4, none⟩ = .some (.int .u32 ((acd p).1 : Int)) := HZ.out.loc.cell 4
    have cx5 : w10.cell? ⟨xb, 5, none⟩ = .some (.int .u32 ((acd p).2 : Int)) := HZ.out.loc.cell 5
    have cx6 : w10.cell? ⟨xb, 6, none⟩ = .some (.int .i64 (poV (optS [102, 114, 111, 109] (ac6 p))).1) := HZ.out.loc.cell 6
    have cx7 : w10.cell? ⟨xb, 7, none⟩ = .some (.int .i64 (poV (optS [102, 114, 111, 109] (ac6 p))).2) := HZ.out.loc.cell 7
    have cx8 : w10.cell? ⟨xb, 8, none⟩ = .some (.int .i64 0) := HZ.out.loc.cell 8
    have cx9 : w10.cell? ⟨xb, 9, none⟩ = .some (.int .i64 65535) := HZ.out.loc.cell 9
    have hRS : RS 88 131 g b B w0 (AlC a v) (((AlR a v).take 11 ++ rowsP v ++ rowsM v) ++ zAq 139 3 110 10 Ru.C v.acls v.am ++ ([])) (ac7 p) w10.drew := by
     have h := (HZ.out.base.keep (zAv w10))
     have e : AlR a v = ((AlR a v).take 11 ++ rowsP v ++ rowsM v) ++ rowsA v ++ ([]) := by simp [AlR]
     rw [e] at h
     exact h
    have HP := hid (zJn v.acls v.am (nmV p) (noV 1 65535 (ac1 p)) ⟨(acy p), (acp p), (acs p).1, (acs p).2, (acd p).1, (acd p).2, (poV (optS [102, 114, 111, 109] (ac6 p))).1, (poV (optS [102, 114, 111, 109] (ac6 p))).2, 0, 65535⟩ ((ac7 p)) w10.drew hRS (by rw [← HL3.out]; exact HK.out.acls) (⟨(zEd _).1, (zEd _).2, (zEd _).1, (zEd _).2⟩))
    clear hRS
    skip
    go_region_law (go_simp; go_at_call 180; refine HP.out.mono ?_; rintro e w5 ⟨v5, ms5, m5, gi5, cap5, rfl, h5, hl5, hm5, hi5, hn5⟩; obtain ⟨A5, n5, d5, rfl⟩ := RS.form (pre := ((AlR a v).take 11 ++ rowsP v ++ rowsM v)) (post := ms5.flatMap (Lm.rows 3 110 10 Ru.C) ++ ([])) (v := v5) (by have := h5; unfold zAq at this; simpa using this); have H5 := hid h5; have HL5 := hid hl5; have HM5 := hid hm5; have HI5 := hid hi5; have HN5 := hid hn5; clear h5 hl5 hm5 hi5 hn5; obtain ⟨y27, c27⟩ := H5.out.some (j := 27) (show 27 < 31 from by decide); have fz := H5.out.frz)
    all_goals
     go_wp2_with fail
     go_end0
     rw [E.out]
     exact ⟨rfl, { v with acls := .slice A5 n5 d5, am := ms5 }, zHk (a := a) (v := v) (H5.out.put 27 _ rfl), ⟨HL1.out, HL2.out, by rw [HL5.out, HL3.out]⟩, (fun h => by have := HB0.out; rw [show a.block = 1 from h] at this; exact absurd this (by decide)), (fun h => by have := HB0.out; rw [show a.block = 2 from h] at this; exact absurd this (by decide))⟩
  | false =>
   cases ct : isW [116, 111] (ac6 p) with
   | true =>
    have E : Hid (zEp a p = ({ a with acls := putL (nmV p) (noV 1 65535 (ac1 p)) ⟨(acy p), (acp p), (acs p).1, (acs p).2, (acd p).1, (acd p).2, 0, 65535, (poV (optS [116, 111] (ac6 p))).1, (poV (optS [116, 111] (ac6 p))).2⟩ a.acls }, (ac9 p))) := hid (by have cf2 : isW [102, 114, 111, 109] (wiS (wiS (protS (chS [112, 101, 114, 109, 105, 116] [100, 101, 110, 121] (noS 1 65535 (nmS p)))))) = false := cf; have ct2 : isW [116, 111] (wiS (wiS (protS (chS [112, 101, 114, 109, 105, 116] [100, 101, 110, 121] (noS 1 65535 (nmS p)))))) = true := ct; unfold zEp; dsimp only; simp only [cf2, ct2, if_true, Bool.false_eq_true, if_false]; rfl)
    have CF := hid cf
    have CT := hid ct
    clear cf ct
    go_wp2_with fail
    refine (zFh b B (ac3 p) _ HX.out.base.st).mono ?_
    rintro e w5 ⟨rfl, h5, k5⟩
    have H5 := hid (HX.out.word h5 k5)
    clear h5 k5
    obtain ⟨y1, c1⟩ := H5.out.lsome (j := 1) (show 1 < 10 from by decide)
    have fz := H5.out.lfrz
    go_wp2_with fail
    refine (zCw b B (ac4 p) _ (H5.out.put (cl' := #[.bool (acy p), .int .i64 (acp p), .int .u32 0, .int .u32 0, .int .u32 0, .int .u32 0, .int .i64 0, .int .i64 65535, .int .i64 0, .int .i64 65535]) 1 (.int .i64 (acp p)) rfl).base.st ((H5.out.put (cl' := #[.bool (acy p), .int .i64 (acp p), .int .u32 0, .int .u32 0, .int .u32 0, .int .u32 0, .int .i64 0, .int .i64 65535, .int .i64 0, .int .i64 65535]) 1 (.int .i64 (acp p)) rfl).env HE.out) (zCt ((zCc _ _ (zCb _ _ (zCp HS.out)))))).mono ?_
    rintro e w6 ⟨rfl, h6, k6⟩
    have H6 := hid ((H5.out.put (cl' := #[.bool (acy p), .int .i64 (acp p), .int .u32 0, .int .u32 0, .int .u32 0, .int .u32 0, .int .i64 0, .int .i64 65535, .int .i64 0, .int .i64 65535]) 1 (.int .i64 (acp p)) rfl).word h6 k6)
    clear h6 k6
    obtain ⟨y2, c2⟩ := H6.out.lsome (j := 2) (show 2 < 10 from by decide)
    obtain ⟨y3, c3⟩ := H6.out.lsome (j := 3) (show 3 < 10 from by decide)
    have fz := H6.out.lfrz
    go_wp2_with fail
    refine (zCw b B (ac5 p) _ ((H6.out.put (cl' := #[.bool (acy p), .int .i64 (acp p), .int .u32 ((acs p).1 : Int), .int .u32 0, .int .u32 0, .int .u32 0, .int .i64 0, .int .i64 65535, .int .i64 0, .int .i64 65535]) 2 (.int .u32 ((acs p).1 : Int)) rfl).put (cl' := #[.bool (acy p), .int .i64 (acp p), .int .u32 ((acs p).1 : Int), .int .u32 ((acs p).2 : Int), .int .u32 0, .int .u32 0, .int .i64 0, .int .i64 65535, .int .i64 0, .int .i64 65535]) 3 (.int .u32 ((acs p).2 : Int)) rfl).base.st (((H6.out.put (cl' := #[.bool (acy p), .int .i64 (acp p), .int .u32 ((acs p).1 : Int), .int .u32 0, .int .u32 0, .int .u32 0, .int .i64 0, .int .i64 65535, .int .i64 0, .int .i64 65535]) 2 (.int .u32 ((acs p).1 : Int)) rfl).put (cl' := #[.bool (acy p), .int .i64 (acp p), .int .u32 ((acs p).1 : Int), .int .u32 ((acs p).2 : Int), .int .u32 0, .int .u32 0, .int .i64 0, .int .i64 65535, .int .i64 0, .int .i64 65535]) 3 (.int .u32 ((acs p).2 : Int)) rfl).env HE.out) (zEc (zCt ((zCc _ _ (zCb _ _ (zCp HS.out))))))).mono ?_
    rintro e w7 ⟨rfl, h7, k7⟩
    have H7 := hid (((H6.out.put (cl' := #[.bool (acy p), .int .i64 (acp p), .int .u32 ((acs p).1 : Int), .int .u32 0, .int .u32 0, .int .u32 0, .int .i64 0, .int .i64 65535, .int .i64 0, .int .i64 65535]) 2 (.int .u32 ((acs p).1 : Int)) rfl).put (cl' := #[.bool (acy p), .int .i64 (acp p), .int .u32 ((acs p).1 : Int), .int .u32 ((acs p).2 : Int), .int .u32 0, .int .u32 0, .int .i64 0, .int .i64 65535, .int .i64 0, .int .i64 65535]) 3 (.int .u32 ((acs p).2 : Int)) rfl).word h7 k7)
    clear h7 k7
    obtain ⟨y4, c4⟩ := H7.out.lsome (j := 4) (show 4 < 10 from by decide)
    obtain ⟨y5, c5⟩ := H7.out.lsome (j := 5) (show 5 < 10 from by decide)
    have fz := H7.out.lfrz
    go_wp2_with fail
    refine (zAl b B (ac6 p) [102, 114, 111, 109] _ ((H7.out.put (cl' := #[.bool (acy p), .int .i64 (acp p), .int .u32 ((acs p).1 : Int), .int .u32 ((acs p).2 : Int), .int .u32 ((acd p).1 : Int), .int .u32 0, .int .i64 0, .int .i64 65535, .int .i64 0, .int .i64 65535]) 4 (.int .u32 ((acd p).1 : Int)) rfl).put (cl' := #[.bool (acy p), .int .i64 (acp p), .int .u32 ((acs p).1 : Int), .int .u32 ((acs p).2 : Int), .int .u32 ((acd p).1 : Int), .int .u32 ((acd p).2 : Int), .int .i64 0, .int .i64 65535, .int .i64 0, .int .i64 65535]) 5 (.int .u32 ((acd p).2 : Int)) rfl).base.st).mono ?_
    rintro e w8 ⟨rfl, h8, k8⟩
    rw [zBx CF.out] at h8
    have H8 := hid (((H7.out.put (cl' := #[.bool (acy p), .int .i64 (acp p), .int .u32 ((acs p).1 : Int), .int .u32 ((acs p).2 : Int), .int .u32 ((acd p).1 : Int), .int .u32 0, .int .i64 0, .int .i64 65535, .int .i64 0, .int .i64 65535]) 4 (.int .u32 ((acd p).1 : Int)) rfl).put (cl' := #[.bool (acy p), .int .i64 (acp p), .int .u32 ((acs p).1 : Int), .int .u32 ((acs p).2 : Int), .int .u32 ((acd p).1 : Int), .int .u32 ((acd p).2 : Int), .int .i64 0, .int .i64 65535, .int .i64 0, .int .i64 65535]) 5 (.int .u32 ((acd p).2 : Int)) rfl).word h8 k8)
    clear h8 k8
    rw [CF.out]
    go_wp2_with fail
    refine (zAl b B (ac6 p) [116, 111] _ H8.out.base.st).mono ?_
    rintro e w9 ⟨rfl, h9, k9⟩
    have H9 := hid (H8.out.word h9 k9)
    clear h9 k9
    rw [CT.out]
    go_wp2_with fail
    refine (zHt b B (optS [116, 111] (ac6 p)) _ H9.out.base.st (H9.out.env HE.out) (zGm _ (zEc (zEc (zCt ((zCc _ _ (zCb _ _ (zCp HS.out))))))))).mono ?_
    rintro e w10 ⟨rfl, h10, k10⟩
    have H10 := hid (H9.out.word h10 k10)
    clear h10 k10
    obtain ⟨y8, c8⟩ := H10.out.lsome (j := 8) (show 8 < 10 from by decide)
    obtain ⟨y9, c9⟩ := H10.out.lsome (j := 9) (show 9 < 10 from by decide)
    have fz := H10.out.lfrz
    go_wp2_with fail
    have RZ : RL 88 131 g b B w0 (AlC a v) (AlR a v) (ac9 p) 110 xb (Ru.C ⟨(acy p), (acp p), (acs p).1, (acs p).2, (acd p).1, (acd p).2, 0, 65535, (poV (optS [116, 111] (ac6 p))).1, (poV (optS [116, 111] (ac6 p))).2⟩) ((w10.setCell ⟨xb, 8, none⟩ (.int .i64 (poV (optS [116, 111] (ac6 p))).1)).setCell ⟨xb, 9, none⟩ (.int .i64 (poV (optS [116, 111] (ac6 p))).2)) := ((H10.out.put (cl' := #[.bool (acy p), .int .i64 (acp p), .int .u32 ((acs p).1 : Int), .int .u32 ((acs p).2 : Int), .int .u32 ((acd p).1 : Int), .int .u32 ((acd p).2 : Int), .int .i64 0, .int .i64 65535, .int .i64 (poV (optS [116, 111] (ac6 p))).1, .int .i64 65535]) 8 (.int .i64 (poV (optS [116, 111] (ac6 p))).1) rfl).put (cl' := #[.bool (acy p), .int .i64 (acp p), .int .u32 ((acs p).1 : Int), .int .u32 ((acs p).2 : Int), .int .u32 ((acd p).1 : Int), .int .u32 ((acd p).2 : Int), .int .i64 0, .int .i64 65535, .int .i64 (poV (optS [116, 111] (ac6 p))).1, .int .i64 (poV (optS [116, 111] (ac6 p))).2]) 9 (.int .i64 (poV (optS [116, 111] (ac6 p))).2) rfl)
    have HZ := hid RZ
    clear RZ
    generalize ((w10.setCell ⟨xb, 8, none⟩ (.int .i64 (poV (optS [116, 111] (ac6 p))).1)).setCell ⟨xb, 9, none⟩ (.int .i64 (poV (optS [116, 111] (ac6 p))).2)) = wz at HZ ⊢
    have cr : wz.cell? ⟨g, 27, none⟩ = .some v.acls := HZ.out.base.cell 27
    have cx0 : wz.cell? ⟨xb, 0, none⟩ = .some (.bool (acy p)) := HZ.out.loc.cell 0
    have cx1 : wz.cell? ⟨xb, 1, none⟩ = .some (.int .i64 (acp p)) := HZ.out.loc.cell 1
    have cx2 : wz.cell? ⟨xb, 2, none⟩ = .some (.int .u32 ((acs p).1 : Int)) := HZ.out.loc.cell 2
    have cx3 : wz.cell? ⟨xb, 3, none⟩ = .some (.int .u32 ((acs p).2 : Int)) := HZ.out.loc.cell 3
    have cx4 : wz.cell? ⟨xb, 4, none⟩ = .some (.int .u32 ((acd p).1 : Int)) := HZ.out.loc.cell 4
    have cx5 : wz.cell? ⟨xb, 5, none⟩ = .some (.int .u32 ((acd p).2 : Int)) := HZ.out.loc.cell 5
    have cx6 : wz.cell? ⟨xb, 6, none⟩ = .some (.int .i64 0) := HZ.out.loc.cell 6
    have cx7 : wz.cell? ⟨xb, 7, none⟩ = .some (.int .i64 65535) := HZ.out.loc.cell 7
    have cx8 : wz.cell? ⟨xb, 8, none⟩ = .some (.int .i64 (poV (optS [116, 111] (ac6 p))).1) := HZ.out.loc.cell 8
    have cx9 : wz.cell? ⟨xb, 9, none⟩ = .some (.int .i64 (poV (optS [116, 111] (ac6 p))).2) := HZ.out.loc.cell 9
    have hRS : RS 88 131 g b B w0 (AlC a v) (((AlR a v).take 11 ++ rowsP v ++ rowsM v) ++ zAq 139 3 110 10 Ru.C v.acls v.am ++ ([])) (ac9 p) wz.drew := by
     have h := (HZ.out.base.keep (zAv wz))
     have e : AlR a v = ((AlR a v).take 11 ++ rowsP v ++ rowsM v) ++ rowsA v ++ ([]) := by simp [AlR]
     rw [e] at h
     exact h
    have HP := hid (zJn v.acls v.am (nmV p) (noV 1 65535 (ac1 p)) ⟨(acy p), (acp p), (acs p).1, (acs p).2, (acd p).1, (acd p).2, 0, 65535, (poV (optS [116, 111] (ac6 p))).1, (poV (optS [116, 111] (ac6 p))).2⟩ ((ac9 p)) wz.drew hRS (by rw [← HL3.out]; exact HK.out.acls) (⟨(zEd _).1, (zEd _).2, (zEd _).1, (zEd _).2⟩))
    clear hRS
    skip
    go_region_law (go_simp; go_at_call 180; refine HP.out.mono ?_; rintro e w5 ⟨v5, ms5, m5, gi5, cap5, rfl, h5, hl5, hm5, hi5, hn5⟩; obtain ⟨A5, n5, d5, rfl⟩ := RS.form (pre := ((AlR a v).take 11 ++ rowsP v ++ rowsM v)) (post := ms5.flatMap (Lm.rows 3 110 10 Ru.C) ++ ([])) (v := v5) (by have := h5; unfold zAq at this; simpa using this); have H5 := hid h5; have HL5 := hid hl5; have HM5 := hid hm5; have HI5 := hid hi5; have HN5 := hid hn5; clear h5 hl5 hm5 hi5 hn5; obtain ⟨y27, c27⟩ := H5.out.some (j := 27) (show 27 < 31 from by decide); have fz := H5.out.frz)
    all_goals
     go_wp2_with fail
     go_end0
     rw [E.out]
     exact ⟨rfl, { v with acls := .slice A5 n5 d5, am := ms5 }, zHk (a := a) (v := v) (H5.out.put 27 _ rfl), ⟨HL1.out, HL2.out, by rw [HL5.out, HL3.out]⟩, (fun h => by have := HB0.out; rw [show a.block = 1 from h] at this; exact absurd this (by decide)), (fun h => by have := HB0.out; rw [show a.block = 2 from h] at this; exact absurd this (by decide))⟩
   | false =>
    have E : Hid (zEp a p = ({ a with acls := putL (nmV p) (noV 1 65535 (ac1 p)) ⟨(acy p), (acp p), (acs p).1, (acs p).2, (acd p).1, (acd p).2, 0, 65535, 0, 65535⟩ a.acls }, (ac6 p))) := hid (by have cf2 : isW [102, 114, 111, 109] (wiS (wiS (protS (chS [112, 101, 114, 109, 105, 116] [100, 101, 110, 121] (noS 1 65535 (nmS p)))))) = false := cf; have ct2 : isW [116, 111] (wiS (wiS (protS (chS [112, 101, 114, 109, 105, 116] [100, 101, 110, 121] (noS 1 65535 (nmS p)))))) = false := ct; unfold zEp; dsimp only; simp only [cf2, ct2, Bool.false_eq_true, if_false]; rfl)
    have CF := hid cf
    have CT := hid ct
    clear cf ct
    go_wp2_with fail
    refine (zFh b B (ac3 p) _ HX.out.base.st).mono ?_
    rintro e w5 ⟨rfl, h5, k5⟩
    have H5 := hid (HX.out.word h5 k5)
    clear h5 k5
    obtain ⟨y1, c1⟩ := H5.out.lsome (j := 1) (show 1 < 10 from by decide)
    have fz := H5.out.lfrz
    go_wp2_with fail
    refine (zCw b B (ac4 p) _ (H5.out.put (cl' := #[.bool (acy p), .int .i64 (acp p), .int .u32 0, .int .u32 0, .int .u32 0, .int .u32 0, .int .i64 0, .int .i64 65535, .int .i64 0, .int .i64 65535]) 1 (.int .i64 (acp p)) rfl).base.st ((H5.out.put (cl' := #[.bool (acy p), .int .i64 (acp p), .int .u32 0, .int .u32 0, .int .u32 0, .int .u32 0, .int .i64 0, .int .i64 65535, .int .i64 0, .int .i64 65535]) 1 (.int .i64 (acp p)) rfl).env HE.out) (zCt ((zCc _ _ (zCb _ _ (zCp HS.out)))))).mono ?_
    rintro e w6 ⟨rfl, h6, k6⟩
    have H6 := hid ((H5.out.put (cl' := #[.bool (acy p), .int .i64 (acp p), .int .u32 0, .int .u32 0, .int .u32 0, .int .u32 0, .int .i64 0, .int .i64 65535, .int .i64 0, .int .i64 65535]) 1 (.int .i64 (acp p)) rfl).word h6 k6)
    clear h6 k6
    obtain ⟨y2, c2⟩ := H6.out.lsome (j := 2) (show 2 < 10 from by decide)
    obtain ⟨y3, c3⟩ := H6.out.lsome (j := 3) (show 3 < 10 from by decide)
    have fz := H6.out.lfrz
    go_wp2_with fail
    refine (zCw b B (ac5 p) _ ((H6.out.put (cl' := #[.bool (acy p), .int .i64 (acp p), .int .u32 ((acs p).1 : Int), .int .u32 0, .int .u32 0, .int .u32 0, .int .i64 0, .int .i64 65535, .int .i64 0, .int .i64 65535]) 2 (.int .u32 ((acs p).1 : Int)) rfl).put (cl' := #[.bool (acy p), .int .i64 (acp p), .int .u32 ((acs p).1 : Int), .int .u32 ((acs p).2 : Int), .int .u32 0, .int .u32 0, .int .i64 0, .int .i64 65535, .int .i64 0, .int .i64 65535]) 3 (.int .u32 ((acs p).2 : Int)) rfl).base.st (((H6.out.put (cl' := #[.bool (acy p), .int .i64 (acp p), .int .u32 ((acs p).1 : Int), .int .u32 0, .int .u32 0, .int .u32 0, .int .i64 0, .int .i64 65535, .int .i64 0, .int .i64 65535]) 2 (.int .u32 ((acs p).1 : Int)) rfl).put (cl' := #[.bool (acy p), .int .i64 (acp p), .int .u32 ((acs p).1 : Int), .int .u32 ((acs p).2 : Int), .int .u32 0, .int .u32 0, .int .i64 0, .int .i64 65535, .int .i64 0, .int .i64 65535]) 3 (.int .u32 ((acs p).2 : Int)) rfl).env HE.out) (zEc (zCt ((zCc _ _ (zCb _ _ (zCp HS.out))))))).mono ?_
    rintro e w7 ⟨rfl, h7, k7⟩
    have H7 := hid (((H6.out.put (cl' := #[.bool (acy p), .int .i64 (acp p), .int .u32 ((acs p).1 : Int), .int .u32 0, .int .u32 0, .int .u32 0, .int .i64 0, .int .i64 65535, .int .i64 0, .int .i64 65535]) 2 (.int .u32 ((acs p).1 : Int)) rfl).put (cl' := #[.bool (acy p), .int .i64 (acp p), .int .u32 ((acs p).1 : Int), .int .u32 ((acs p).2 : Int), .int .u32 0, .int .u32 0, .int .i64 0, .int .i64 65535, .int .i64 0, .int .i64 65535]) 3 (.int .u32 ((acs p).2 : Int)) rfl).word h7 k7)
    clear h7 k7
    obtain ⟨y4, c4⟩ := H7.out.lsome (j := 4) (show 4 < 10 from by decide)
    obtain ⟨y5, c5⟩ := H7.out.lsome (j := 5) (show 5 < 10 from by decide)
    have fz := H7.out.lfrz
    go_wp2_with fail
    refine (zAl b B (ac6 p) [102, 114, 111, 109] _ ((H7.out.put (cl' := #[.bool (acy p), .int .i64 (acp p), .int .u32 ((acs p).1 : Int), .int .u32 ((acs p).2 : Int), .int .u32 ((acd p).1 : Int), .int .u32 0, .int .i64 0, .int .i64 65535, .int .i64 0, .int .i64 65535]) 4 (.int .u32 ((acd p).1 : Int)) rfl).put (cl' := #[.bool (acy p), .int .i64 (acp p), .int .u32 ((acs p).1 : Int), .int .u32 ((acs p).2 : Int), .int .u32 ((acd p).1 : Int), .int .u32 ((acd p).2 : Int), .int .i64 0, .int .i64 65535, .int .i64 0, .int .i64 65535]) 5 (.int .u32 ((acd p).2 : Int)) rfl).base.st).mono ?_
    rintro e w8 ⟨rfl, h8, k8⟩
    rw [zBx CF.out] at h8
    have H8 := hid (((H7.out.put (cl' := #[.bool (acy p), .int .i64 (acp p), .int .u32 ((acs p).1 : Int), .int .u32 ((acs p).2 : Int), .int .u32 ((acd p).1 : Int), .int .u32 0, .int .i64 0, .int .i64 65535, .int .i64 0, .int .i64 65535]) 4 (.int .u32 ((acd p).1 : Int)) rfl).put (cl' := #[.bool (acy p), .int .i64 (acp p), .int .u32 ((acs p).1 : Int), .int .u32 ((acs p).2 : Int), .int .u32 ((acd p).1 : Int), .int .u32 ((acd p).2 : Int), .int .i64 0, .int .i64 65535, .int .i64 0, .int .i64 65535]) 5 (.int .u32 ((acd p).2 : Int)) rfl).word h8 k8)
    clear h8 k8
    rw [CF.out]
    go_wp2_with fail
    refine (zAl b B (ac6 p) [116, 111] _ H8.out.base.st).mono ?_
    rintro e w9 ⟨rfl, h9, k9⟩
    rw [zBx CT.out] at h9
    have H9 := hid (H8.out.word h9 k9)
    clear h9 k9
    rw [CT.out]
    go_wp2_with fail
    have RZ : RL 88 131 g b B w0 (AlC a v) (AlR a v) (ac6 p) 110 xb (Ru.C ⟨(acy p), (acp p), (acs p).1, (acs p).2, (acd p).1, (acd p).2, 0, 65535, 0, 65535⟩) w9 := H9.out
    have HZ := hid RZ
    clear RZ
    have cr : w9.cell? ⟨g, 27, none⟩ = .some v.acls := HZ.out.base.cell 27
    have cx0 : w9.cell? ⟨xb, 0, none⟩ = .some (.bool (acy p)) := HZ.out.loc.cell 0
    have cx1 : w9.cell? ⟨xb, 1, none⟩ = .some (.int .i64 (acp p)) := HZ.out.loc.cell 1
    have cx2 : w9.cell? ⟨xb, 2, none⟩ = .some (.int .u32 ((acs p).1 : Int)) := HZ.out.loc.cell 2
    have cx3 : w9.cell? ⟨xb, 3, none⟩ = .some (.int .u32 ((acs p).2 : Int)) := HZ.out.loc.cell 3
    have cx4 : w9.cell? ⟨xb, 4, none⟩ = .some (.int .u32 ((acd p).1 : Int)) := HZ.out.loc.cell 4
    have cx5 : w9.cell? ⟨xb, 5, none⟩ = .some (.int .u32 ((acd p).2 : Int)) := HZ.out.loc.cell 5
    have cx6 : w9.cell? ⟨xb, 6, none⟩ = .some (.int .i64 0) := HZ.out.loc.cell 6
    have cx7 : w9.cell? ⟨xb, 7, none⟩ = .some (.int .i64 65535) := HZ.out.loc.cell 7
    have cx8 : w9.cell? ⟨xb, 8, none⟩ = .some (.int .i64 0) := HZ.out.loc.cell 8
    have cx9 : w9.cell? ⟨xb, 9, none⟩ = .some (.int .i64 65535) := HZ.out.loc.cell 9
    have hRS : RS 88 131 g b B w0 (AlC a v) (((AlR a v).take 11 ++ rowsP v ++ rowsM v) ++ zAq 139 3 110 10 Ru.C v.acls v.am ++ ([])) (ac6 p) w9.drew := by
     have h := (HZ.out.base.keep (zAv w9))
     have e : AlR a v = ((AlR a v).take 11 ++ rowsP v ++ rowsM v) ++ rowsA v ++ ([]) := by simp [AlR]
     rw [e] at h
     exact h
    have HP := hid (zJn v.acls v.am (nmV p) (noV 1 65535 (ac1 p)) ⟨(acy p), (acp p), (acs p).1, (acs p).2, (acd p).1, (acd p).2, 0, 65535, 0, 65535⟩ ((ac6 p)) w9.drew hRS (by rw [← HL3.out]; exact HK.out.acls) (⟨(zEd _).1, (zEd _).2, (zEd _).1, (zEd _).2⟩))
    clear hRS
    skip
    go_region_law (go_simp; go_at_call 180; refine HP.out.mono ?_; rintro e w5 ⟨v5, ms5, m5, gi5, cap5, rfl, h5, hl5, hm5, hi5, hn5⟩; obtain ⟨A5, n5, d5, rfl⟩ := RS.form (pre := ((AlR a v).take 11 ++ rowsP v ++ rowsM v)) (post := ms5.flatMap (Lm.rows 3 110 10 Ru.C) ++ ([])) (v := v5) (by have := h5; unfold zAq at this; simpa using this); have H5 := hid h5; have HL5 := hid hl5; have HM5 := hid hm5; have HI5 := hid hi5; have HN5 := hid hn5; clear h5 hl5 hm5 hi5 hn5; obtain ⟨y27, c27⟩ := H5.out.some (j := 27) (show 27 < 31 from by decide); have fz := H5.out.frz)
    all_goals
     go_wp2_with fail
     go_end0
     rw [E.out]
     exact ⟨rfl, { v with acls := .slice A5 n5 d5, am := ms5 }, zHk (a := a) (v := v) (H5.out.put 27 _ rfl), ⟨HL1.out, HL2.out, by rw [HL5.out, HL3.out]⟩, (fun h => by have := HB0.out; rw [show a.block = 1 from h] at this; exact absurd this (by decide)), (fun h => by have := HB0.out; rw [show a.block = 2 from h] at this; exact absurd this (by decide))⟩
def rtZ (a : Al) (v : Av) : Rt where
 name := a.name
 asn := a.asn
 ifsV := v.ifs
 listsV := .slice none 0 0
 mapsV := .slice none 0 0
 aclsV := .slice none 0 0
 natV := v.nat
 statV := v.stat
 lsOn := a.lsOn
 lsAdmin := a.lsAdmin
 rangesV := v.ranges
 lsRedV := v.lsRed
 dvOn := a.dvOn
 dvAdmin := a.dvAdmin
 dvIn := a.dvIn
 dvOut := a.dvOut
 dvRedV := v.dvRed
 pvOn := a.pvOn
 ext := a.ext
 int := a.int
 nbV := v.nb
 netV := v.net
 agV := v.ag
 cdV := v.cd
 pvRedV := v.pvRed
 ifs := a.ifs
 lists := []
 maps := []
 acls := []
 nat := a.nat
 stat := a.stat
 ranges := a.ranges
 lsRed := a.lsRed
 dvRed := a.dvRed
 nb := a.nb
 net := a.net
 ag := a.ag
 cd := a.cd
 pvRed := a.pvRed
theorem rtZ_C (a : Al) (v : Av) : (AlC a v).extract 0 25 = (rtZ a v).C := by
 unfold AlC rtZ Rt.C
 simp only [List.extract_toArray, List.extract_eq_take_drop, List.drop_zero, Nat.sub_zero, List.take_succ_cons, List.take_zero]
section
variable {g b B : Nat} {w0 w : World} {a : Al} {v : Av} {p : Ps}
theorem RS.own' {E T : TypeId} {cs : Array Value} {rs : List Orow} (h : RS E T g b B w0 cs rs p w) {α : Type} {Te : TypeId} {n : Nat} {cells : α → Array Value} {x : Value} {l : List α} (hm : rowE Te n cells x l ∈ rs) : OwnE w B Te n cells x l := h.own.1 _ hm
theorem RS.rtZ (h : RS 88 131 g b B w0 (AlC a v) (AlR a v) p w) : (rtZ a v).at w w.heap.size where
 hifs := OwnE.slv (v := v.ifs) (l := a.ifs) (T := 68) (h.own' (by simp [AlR]))
 hlists := (OwnE.nil (B := 0) (T := 0) (n := 2) (cells := PList.C)).slv
 nlists := fun _ h => by cases h
 hmaps := (OwnE.nil (B := 0) (T := 0) (n := 2) (cells := RMap.C)).slv
 nmaps := fun _ h => by cases h
 hacls := (OwnE.nil (B := 0) (T := 0) (n := 2) (cells := AList.C)).slv
 nacls := fun _ h => by cases h
 hnat := OwnE.slv (v := v.nat) (l := a.nat) (T := 70) (h.own' (by simp [AlR]))
 hstat := OwnE.slv (v := v.stat) (l := a.stat) (T := 74) (h.own' (by simp [AlR]))
 hranges := OwnE.slv (v := v.ranges) (l := a.ranges) (T := 113) (h.own' (by simp [AlR]))
 hlsRed := OwnE.slv (v := v.lsRed) (l := a.lsRed) (T := 151) (h.own' (by simp [AlR]))
 hdvRed := OwnE.slv (v := v.dvRed) (l := a.dvRed) (T := 151) (h.own' (by simp [AlR]))
 hnb := OwnE.slv (v := v.nb) (l := a.nb) (T := 115) (h.own' (by simp [AlR]))
 hnet := OwnE.slv (v := v.net) (l := a.net) (T := 72) (h.own' (by simp [AlR]))
 hag := OwnE.slv (v := v.ag) (l := a.ag) (T := 117) (h.own' (by simp [AlR]))
 hcd := OwnE.slv (v := v.cd) (l := a.cd) (T := 119) (h.own' (by simp [AlR]))
 hpvRed := OwnE.slv (v := v.pvRed) (l := a.pvRed) (T := 151) (h.own' (by simp [AlR]))
theorem RS.rtR {T : TypeId} {rs : List Orow} (h : RS 88 T g b B w0 (AlC a v) rs p w) : w.rangeAt g 0 (Go.Proofs.YtoceoaiokkbjeaaGreatDoor.rtZ a v).C.toList := by
 have := World.rangeAt_of_block h.has 0 25
 rwa [Nat.zero_add, rtZ_C] at this
end
theorem find_ifs (nm : List UInt8) (l : List If) : (idxF (fun x => x.name == nm) l 0 = -1 ∧ findI nm l = l.length) ∨ ∃ k, k < l.length ∧ idxF (fun x => x.name == nm) l 0 = (k : Int) ∧ findI nm l = k := by
 have h : ∀ (l : List If) (j : Nat), (idxF (fun x => x.name == nm) l j = -1 ∧ findI nm l = l.length) ∨ ∃ k, k < l.length ∧ idxF (fun x => x.name == nm) l j = ((j + k : Nat) : Int) ∧ findI nm l = k := by
  intro l
  induction l with
  | nil => intro j; exact .inl ⟨rfl, rfl⟩
  | cons m r ih =>
   intro j
   have hd : findI nm (m :: r) = if m.name == nm then 0 else findI nm r + 1 := rfl
   unfold idxF
   rw [hd]
   cases hm : (m.name == nm) with
   | true => exact .inr ⟨0, by simp, by simp, by simp⟩
   | false =>
    rcases ih (j + 1) with ⟨h1, h2⟩ | ⟨k, h1, h2, h3⟩
    ·exact .inl ⟨by simpa using h1, by simp [h2]⟩
    ·refine .inr ⟨k + 1, by simp only [List.length_cons]; omega, ?_, by simp [h3]⟩
     simp only [Bool.false_eq_true, if_false]
     rw [h2]
     congr 1
     omega
 rcases h l 0 with h1 | ⟨k, h1, h2, h3⟩
 ·exact .inl h1
 ·exact .inr ⟨k, h1, by simpa using h2, h3⟩
theorem Tryz.infoIf : (Tryz.prog.info? 68).map (fun i => (i.zero.map (fun z => z.cells.size), i.size, i.bytes)) = some (some 12, 12, 112) := by kernel_rfl
theorem zKe (g b B : Nat) (w0 : World) (a : Al) (name : List UInt8) (p : Ps) (w : World) (h : RA g b B w0 a p w) (hk : AlOk 1000000 a) :
  Calls Tryz.prog 110 #[.pointer (some ⟨g, 0, none⟩), .string (str name)] w (APost g b B w0 (zDt name a) p) := by
 obtain ⟨v, h, hl, -, -⟩ := h
 have HO : OwnE w B 68 12 If.C v.ifs a.ifs := h.own' (by simp [AlR])
 obtain ⟨A0, c0, e0, -⟩ := HO.slv
 have H := hid h
 have HK := hid hk
 have HL := hid hl
 have HZ := hid h.rtZ
 have HR := hid h.rtR
 have HF := hid (find_ifs name a.ifs)
 have HE0 := hid e0
 clear h hk hl HO e0
 go_enter Tryz.func110, Tryz.ntmps110
 go_wp2_with (refine zAa rfl _ _ rfl rfl HR.out Tryz.rowRt Tryz.sizeRt ?_)
 refine (zHc (rtZ a v) name _ w.heap.size HZ.out (Nat.le_refl _)).mono ?_
 rintro e w1 ⟨rfl, hb1⟩
 have H1 := hid (H.out.keep hb1)
 clear hb1 HZ HR
 rw [show (rtZ a v).ifs = a.ifs from rfl]
 generalize idxF (fun x => x.name == name) a.ifs 0 = kk at HF ⊢
 go_upto_if 12 with (fail)
 go_cut [4] (fun k0 wx => ∃ V : Value, k0 = .int .i64 ((zDt name a).iface : Int) ∧ RS 88 131 g b B w0 (AlC { a with ifs := (zDt name a).ifs } { v with ifs := V }) (AlR { a with ifs := (zDt name a).ifs } { v with ifs := V }) p wx ∧ (zDt name a).iface < (zDt name a).ifs.length)
 case first =>
  rcases HF.out with ⟨rfl, e2⟩ | ⟨k, hkl, rfl, e2⟩
  ·have E : Hid (zDt name a = { a with ifs := a.ifs ++ [ifZ name], block := 1, iface := a.ifs.length }) := hid (by unfold zDt; rw [if_neg (by omega)])
   have HO1 : OwnE w1 B 68 12 If.C v.ifs a.ifs := H1.out.own' (by simp [AlR])
   obtain ⟨A5, m5, c5, w5, hr, ho5, hg5, hn5⟩ := HO1.push (P := Tryz.prog) (by have := H1.out.size; have := H1.out.bB; omega) Tryz.underlying22 Tryz.infoIf (by decide) (fun _ => rfl) (ifZ name) (If.one _) (by have := HK.out.ifs.1; omega) (by decide) 22
   have R5 : RS 88 131 g b B w0 (AlC a v) ((AlR a v).take 0 ++ rowE 68 12 If.C (.slice A5 m5 c5) (a.ifs ++ [ifZ name]) :: (AlR a v).drop 1) p w5 := RS.row (r := rowE 68 12 If.C v.ifs a.ifs) (r' := rowE 68 12 If.C (.slice A5 m5 c5) (a.ifs ++ [ifZ name])) H1.out hg5 ho5 hn5
   have H5 := hid R5
   rw [HE0.out] at hr
   have HR := hid hr
   have c2 : w1.cell? ⟨g, 2, none⟩ = .some (.slice A0 a.ifs.length c0) := by rw [← HE0.out]; exact H1.out.cell 2
   obtain ⟨y2, d2⟩ := H5.out.some (j := 2) (show 2 < 31 from by decide)
   have fz := H5.out.frz
   clear R5 hr ho5 hg5 hn5 HO1 e2
   go_wp2_with (at_builtin; refine Lib.wpList_append_run _ rfl _ _ _ _ rfl _ _ rfl rfl _ _ HR.out ?_)
   go_meet
   rw [E.out]
   exact ⟨.slice A5 m5 c5, rfl, H5.out.put 2 _ rfl, by simp⟩
  ·have E : Hid (zDt name a = { a with block := 1, iface := k }) := hid (by unfold zDt; rw [if_pos (by omega), e2])
   have hk0 : ¬ ((k : Int) < 0) := by omega
   clear e2
   go_wp2_with fail
   go_meet
   rw [E.out]
   exact ⟨v.ifs, rfl, H1.out, hkl⟩
 case rest =>
  obtain ⟨V, rfl, R, hlt⟩ := hcut
  have hO : OwnE wc B 68 12 If.C V (zDt name a).ifs := R.own' (by simp [AlR])
  obtain ⟨gg, cap, cur, rfl, -⟩ := hO.part (by decide) (fun _ => rfl) hlt
  have c2 : wc.drew.cell? ⟨g, 2, none⟩ = .some (.slice (some ⟨gg, 0, none⟩) (zDt name a).ifs.length cap) := R.cell 2
  obtain ⟨y28, c28⟩ := R.some (j := 28) (show 28 < 31 from by decide)
  obtain ⟨y29, c29⟩ := R.some (j := 29) (show 29 < 31 from by decide)
  have fz := R.frz
  have HR := hid (R.keep (zAv wc))
  have hk0 : (0 : Int) ≤ ((zDt name a).iface : Int) := by omega
  have hkz : ((zDt name a).iface : Int) < ((zDt name a).ifs.length : Int) := by omega
  have E : Hid (zDt name a = { a with ifs := (zDt name a).ifs, block := 1, iface := (zDt name a).iface }) := hid (by unfold zDt; split <;> rfl)
  have c28' : wc.drew.cell? ⟨g, 28, none⟩ = .some y28 := c28
  have c29' : wc.drew.cell? ⟨g, 29, none⟩ = .some y29 := c29
  have fz' : ∀ j, wc.drew.frozen? ⟨g, j, none⟩ = false := fz
  clear R hO HF
  generalize (zDt name a).ifs = L at *
  generalize (zDt name a).iface = K at *
  go_wp2_with fail
  go_region_law (fail)
  all_goals
   go_wp2_with fail
   go_end0
   rw [E.out]
   exact ⟨rfl, { v with ifs := .slice (some ⟨gg, 0, none⟩) L.length cap, ifp := .pointer (some ⟨gg, K * 12, none⟩) }, (HR.out.put 28 _ rfl).put 29 _ rfl, HL.out, fun _ => ⟨gg, cap, rfl, rfl⟩, fun h => absurd (show (1 : Int) = 2 from h) (by decide)⟩
section
variable {E T : TypeId} {g b B : Nat} {w0 w w' : World} {cs : Array Value} {rs rs' pre post A Bq : List Orow} {p : Ps} {r r' o o' s s' i i' : Orow}
theorem RS.lo (h : RS E T g b B w0 cs (lf pre A Bq post o s i) p w) (hg : w.grownBy w' o.v.ownBlock) (ho : o'.own w' B) (hn : o'.v.ownBlock = o.v.ownBlock ∨ o'.v.ownBlock = none ∨ ∃ k, o'.v.ownBlock = Option.some k ∧ w.heap.size ≤ k) :
  RS E T g b B w0 cs (lf pre A Bq post o' s i) p w' := by
 rw [lf_o] at h ⊢
 exact RS.row h hg ho hn
theorem RS.ls (h : RS E T g b B w0 cs (lf pre A Bq post o s i) p w) (hg : w.grownBy w' s.v.ownBlock) (ho : s'.own w' B) (hn : s'.v.ownBlock = s.v.ownBlock ∨ s'.v.ownBlock = none ∨ ∃ k, s'.v.ownBlock = Option.some k ∧ w.heap.size ≤ k) :
  RS E T g b B w0 cs (lf pre A Bq post o s' i) p w' := by
 rw [lf_s] at h ⊢
 exact RS.row h hg ho hn
theorem RS.li (h : RS E T g b B w0 cs (lf pre A Bq post o s i) p w) (hg : w.grownBy w' i.v.ownBlock) (ho : i'.own w' B) (hn : i'.v.ownBlock = i.v.ownBlock ∨ i'.v.ownBlock = none ∨ ∃ k, i'.v.ownBlock = Option.some k ∧ w.heap.size ≤ k) :
  RS E T g b B w0 cs (lf pre A Bq post o s i') p w' := by
 rw [lf_i] at h ⊢
 exact RS.row h hg ho hn
theorem RS.oAt (h : RS E T g b B w0 cs (lf pre A Bq post o s i) p w) : o.own w B := h.own.1 o (by simp [lf])
theorem RS.sAt (h : RS E T g b B w0 cs (lf pre A Bq post o s i) p w) : s.own w B := h.own.1 s (by simp [lf])
theorem RS.iAt (h : RS E T g b B w0 cs (lf pre A Bq post o s i) p w) : i.own w B := h.own.1 i (by simp [lf])
theorem RS.ne (h : RS E T g b B w0 cs (lf pre A Bq post o s i) p w) {x y : Nat} : (o.v.ownBlock = Option.some x → s.v.ownBlock = Option.some y → x ≠ y) ∧ (o.v.ownBlock = Option.some x → i.v.ownBlock = Option.some y → x ≠ y) ∧ (s.v.ownBlock = Option.some x → i.v.ownBlock = Option.some y → x ≠ y) := by
 have hn : ([o, s, i].filterMap (·.v.ownBlock)).Nodup := h.own.2.sublist (sub_lf.filterMap _)
 refine ⟨fun h1 h2 e => ?_, fun h1 h2 e => ?_, fun h1 h2 e => ?_⟩
 ·subst e
  rw [List.filterMap_cons, List.filterMap_cons, h1, h2] at hn
  simp at hn
 ·subst e
  rw [List.filterMap_cons, h1] at hn
  have : x ∈ [s, i].filterMap (·.v.ownBlock) := List.mem_filterMap.2 ⟨i, by simp, h2⟩
  exact (List.nodup_cons.1 hn).1 this
 ·subst e
  have hn2 : ([s, i].filterMap (·.v.ownBlock)).Nodup := hn.sublist (List.Sublist.filterMap _ (List.sublist_cons_self o _))
  rw [List.filterMap_cons, h1] at hn2
  have : x ∈ [i].filterMap (·.v.ownBlock) := List.mem_filterMap.2 ⟨i, by simp, h2⟩
  exact (List.nodup_cons.1 hn2).1 this
theorem RS.sub (h : RS E T g b B w0 cs rs p w) (hs : rs'.Sublist rs) : RS E T g b B w0 cs rs' p w := by
 have hb : ∀ k, k ∈ blks rs' → k ∈ blks rs := fun k hk => (hs.filterMap _).subset hk
 exact ⟨h.has, h.own.sub hs, h.st, h.bel, h.bB, h.gB, h.gb, fun hm => h.gr (hb _ hm), fun hm => h.br (hb _ hm)⟩
end
section
variable {α : Type} {Tl Ti Te : TypeId} {n : Nat} {cells : α → Array Value} {v : Value}
theorem zHj {l : List α} {k : Nat} (hk : k < l.length) (x : α) : delAt (zAm l k x) k = delAt l k := by
 have hl : (l.take k).length = k := by rw [List.length_take]; omega
 unfold delAt zAm
 rw [List.take_append_of_le_length (by rw [hl]; exact Nat.le_refl _), List.take_of_length_le (by rw [hl]; exact Nat.le_refl _), List.drop_append, hl, List.drop_of_length_le (by rw [hl]; omega), List.nil_append, show k + 1 - k = 1 from by omega]
 rfl
theorem zJt (pre post : List Orow) (ms : List (Lm α)) (k : Nat) (s i : Orow) (v : Value) :
  (pre ++ zAq Tl Ti Te n cells v (delAt ms k) ++ post).Sublist (lf pre ((ms.take k).flatMap (Lm.rows Ti Te n cells)) ((ms.drop (k + 1)).flatMap (Lm.rows Ti Te n cells)) post (rowE Tl 3 Lm.C v (delAt ms k)) s i) := by
 unfold lf zAq delAt
 rw [List.flatMap_append]
 refine (List.Sublist.append (List.Sublist.append (List.Sublist.refl _) (List.Sublist.cons_cons _ (List.Sublist.append (List.Sublist.refl _) ?_))) (List.Sublist.refl _))
 exact (List.sublist_cons_self _ _).trans (List.sublist_cons_self _ _)
theorem zHb (pre post : List Orow) (ms : List (Lm α)) (f : Lm α → Bool) (v : Value) :
  (pre ++ zAq Tl Ti Te n cells v (ms.filter f) ++ post).Sublist (pre ++ rowE Tl 3 Lm.C v (ms.filter f) :: (ms.flatMap (Lm.rows Ti Te n cells) ++ post)) := by
 unfold zAq
 rw [show pre ++ rowE Tl 3 Lm.C v (ms.filter f) :: (ms.flatMap (Lm.rows Ti Te n cells) ++ post) = pre ++ (rowE Tl 3 Lm.C v (ms.filter f) :: ms.flatMap (Lm.rows Ti Te n cells)) ++ post from by simp]
 exact List.Sublist.append (List.Sublist.append (List.Sublist.refl _) (List.Sublist.cons_cons _ (flat_sub List.filter_sublist))) (List.Sublist.refl _)
theorem dropLs_at {ms : List (Lm α)} {k : Nat} (hk : k < ms.length) (nm : List UInt8) (q : Int) (hf : findL nm (ms.map Lm.ls) = k) :
  zFf nm q (ms.map Lm.ls) = if (zCl q ms[k].ls).items.isEmpty then delAt (ms.map Lm.ls) k else zAm (ms.map Lm.ls) k (zCl q ms[k].ls) := by
 have e : (ms.map Lm.ls)[k]? = some ms[k].ls := by rw [List.getElem?_map, List.getElem?_eq_getElem hk]; rfl
 unfold zFf
 rw [hf, e]
theorem zIi {ms : List (Lm α)} (nm : List UInt8) (q : Int) (hf : findL nm (ms.map Lm.ls) = ms.length) : zFf nm q (ms.map Lm.ls) = ms.map Lm.ls := by
 have e : (ms.map Lm.ls)[ms.length]? = none := List.getElem?_eq_none (by simp)
 unfold zFf
 rw [hf, e]
end
def LsPost {α : Type} (E T : TypeId) (g b B : Nat) (w0 : World) (cs : Array Value) (pre post : List Orow) (Tl Ti Te : TypeId) (n : Nat) (cells : α → Array Value) (l' : List (Ls α)) (p' : Ps) (e : Ending) (w' : World) : Prop :=
 ∃ v' ms', e = .returned v' ∧ RS E T g b B w0 cs (pre ++ zAq Tl Ti Te n cells v' ms' ++ post) p' w' ∧ ms'.map Lm.ls = l'
section
variable {α : Type} {w : World} {B n : Nat} {T : TypeId} {cells : α → Array Value} {l : List α}
theorem OwnE.cellAt {g cap : Nat} {m : Nat} (h : OwnE w B T n cells (.slice (some ⟨g, 0, none⟩) m cap) l) (hn : 0 < n) (hl : ∀ x, (cells x).toList.length = n) {k : Nat} (hk : k < l.length) {j : Nat} (hj : j < n) : w.cell? ⟨g, k * n + j, none⟩ = (cells l[k])[j]? := by
 obtain ⟨g', cap', e, -, -, hr, -⟩ := h.range hn hl hk
 injection e with e1 _ _
 injection e1 with e1
 injection e1 with e1 _ _
 subst e1
 have hj' : j < (cells l[k]).toList.length := by rw [hl]; exact hj
 rw [hr j _ (List.getElem?_eq_getElem hj')]
 simp
end
section
variable {E : TypeId} {g b B : Nat} {w0 : World} {cs : Array Value} {pre post : List Orow}
theorem dropPRule_any (v : Value) (ms : List (Lm PRule)) (name : List UInt8) (q : Int) (p : Ps) (w : World) (h : RS E 131 g b B w0 cs (pre ++ zAq 135 3 96 5 PRule.C v ms ++ post) p w) (hk : LsOk PRule.fit 1000000 (ms.map Lm.ls)) :
  Calls Tryz.prog 162 #[v, .string (str name), .int .i64 q] w (LsPost E 131 g b B w0 cs pre post 135 3 96 5 PRule.C (zFf name q (ms.map Lm.ls)) p) := by
 have hml : ms.length ≤ 1000000 := by have := hk.1; simpa using this
 have HO0 : OwnE w B 135 3 Lm.C v ms := h.own.1 (rowE 135 3 Lm.C v ms) (by simp [zAq])
 have R0 := hid h
 have HS := hid HO0.slv
 have HK := hid hk
 have HF := hid (zHs name ms)
 clear h hk HO0
 go_enter Tryz.func162, Tryz.ntmps162
 go_wp2_with fail
 refine (zJi _ ms name _ HS.out).mono ?_
 rintro e w1 ⟨rfl, hb1⟩
 have R1 := hid (R0.out.keep hb1)
 clear hb1 HS R0
 generalize idxF (fun m => m.name == name) ms 0 = kk at HF ⊢
 rcases HF.out with ⟨rfl, e2⟩ | ⟨k, hkl, rfl, e2⟩
 ·have E2 := hid (zIi name q e2)
  clear e2
  go_wp2_with fail
  go_ret
  exact ⟨_, ms, rfl, R1.out, E2.out.symm⟩
 have hk0 : ¬ ((k : Int) < 0) := by omega
 have hkz : (k : Int) < (ms.length : Int) := by omega
 have hk00 : (0 : Int) ≤ (k : Int) := by omega
 have hkw : IntKind.i64.wrap ((k : Int) + 1) = (k : Int) + 1 := by rw [IntKind.wrap_i64]; omega
 have R := R1.out
 rw [zFt pre post hkl] at R
 obtain ⟨m, hm⟩ : ∃ m, m = ms[k] := ⟨_, rfl⟩
 rw [← hm] at R
 have E1 : Hid (zFf name q (ms.map Lm.ls) = if (zCl q m.ls).items.isEmpty then delAt (ms.map Lm.ls) k else zAm (ms.map Lm.ls) k (zCl q m.ls)) := hid (by rw [dropLs_at hkl name q e2, ← hm])
 have HL : Hid (LsOne PRule.fit 1000000 m.ls) := hid (by rw [hm]; exact HK.out.2 _ (List.mem_map_of_mem (List.getElem_mem hkl)))
 obtain ⟨A, hA⟩ : ∃ A, A = (ms.take k).flatMap (Lm.rows 3 96 5 PRule.C) := ⟨_, rfl⟩
 obtain ⟨Bq, hBq⟩ : ∃ A, A = (ms.drop (k + 1)).flatMap (Lm.rows 3 96 5 PRule.C) := ⟨_, rfl⟩
 rw [← hA, ← hBq] at R
 have HO : OwnE w1 B 135 3 Lm.C v ms := R.oAt
 obtain ⟨gl, capl, curl, rfl, hglB, hpt, hput⟩ := HO.part (by decide) (fun _ => rfl) hkl
 rw [← hm] at hpt
 have hlen0 : m.items.length ≤ 1000000 ∧ m.items.length = m.seqs.length := ⟨HL.out.items.1, HL.out.len⟩
 have HB := hid (zEu B m.sv m.seqs q w1 R.sAt HL.out.asc (by omega))
 have RC := hid R
 have HPC := hid hpt
 have HPut := hid hput
 have HA := hid hA
 have HBq := hid hBq
 have HM := hid hm
 have cS : w1.cell? ⟨gl, k * 3 + 1, none⟩ = .some m.sv := hpt.cell (j := 1) (by show 1 < 3; decide)
 clear R hpt hput hA hBq hm HO R1 e2 HF
 go_wp2_with fail
 refine HB.out.mono ?_
 rintro e wb ⟨rfl, hb2⟩
 have RB := hid (RC.out.keep hb2)
 have HPT := hid (HPC.out.below hb2)
 have HK2 := hid hkl
 clear hb2 cS HB RC HPC
 have hile := zEg q m.seqs
 go_upto_if 29 with (fail)
 go_cut [10] (fun f0 wx => ∃ m' : Lm PRule, RS E 131 g b B w0 cs (lf pre A Bq post (rowE 135 3 Lm.C (.slice (some ⟨gl, 0, none⟩) ms.length capl) (zAm ms k m')) (rowE 3 1 intC m'.sv m'.seqs) (rowE 96 5 PRule.C m'.iv m'.items)) p wx ∧ m'.ls = zCl q m.ls)
 case first =>
  cases hs : zDq q m.seqs with
  | true =>
   have hi := zEl hs
   have hi2 : zAc q m.seqs < m.items.length := by omega
   have hw1 : IntKind.i64.wrap (((zAc q m.seqs : Nat) : Int) + 1) = ((zAc q m.seqs : Nat) : Int) + 1 := by rw [IntKind.wrap_i64]; omega
   have HD := hid (zHi B m.sv m.seqs (zAc q m.seqs) wb RB.out.sAt hi)
   have cS : wb.cell? ⟨gl, k * 3 + 1, none⟩ = .some m.sv := HPT.out.cell (j := 1) (by show 1 < 3; decide)
   have HSQ := hid hs
   have HI2 := hid hi2
   clear hs hi hi2 hile hlen0
   go_wp2_with fail
   refine HD.out.mono ?_
   rintro e w4 ⟨v4, rfl, ho4, hn4, hg4⟩
   have R4 := RS.ls (s' := rowE 3 1 intC v4 (delAt m.seqs (zAc q m.seqs))) RB.out hg4 ho4 hn4
   have hP4 := HPT.out.frame hg4 (fun e => (RS.ne RB.out).1 rfl e rfl)
   have hf4 : ∃ A m c, v4 = .slice A m c := by
    rcases ho4.2 with ⟨e, -⟩ | ⟨_, _, _, e, -⟩
    ·exact ⟨_, _, _, e⟩
    ·exact ⟨_, _, _, e⟩
   obtain ⟨A4, n4, c4, rfl⟩ := hf4
   have hP5 := hP4.put (cs' := (⟨m.name, delAt m.seqs (zAc q m.seqs), m.items, .slice A4 n4 c4, m.iv, rfl, m.i1⟩ : Lm PRule).C) (j := 1) (by show 1 < 3; decide) (.slice A4 n4 c4) rfl
   have R5 := RS.lo (o' := rowE 135 3 Lm.C (.slice (some ⟨gl, 0, none⟩) ms.length capl) (zAm ms k (⟨m.name, delAt m.seqs (zAc q m.seqs), m.items, .slice A4 n4 c4, m.iv, rfl, m.i1⟩ : Lm PRule))) R4 (zBj w4 gl (k * 3 + 1) (.slice A4 n4 c4)) (by have h := HPut.out _ _ hP5.1; exact h) (.inl rfl)
   have HP5 := hid hP5
   have HR5 := hid R5
   have cS4 : w4.cell? ⟨gl, k * 3 + 1, none⟩ = .some m.sv := hP4.cell (j := 1) (by show 1 < 3; decide)
   have fz := hP4.frz
   clear R4 hP4 hP5 R5 ho4 hn4 hg4 HD cS
   go_upto_region 8 with (fail)
   generalize w4.setCell ⟨gl, k * 3 + 1, none⟩ (.slice A4 n4 c4) = w5 at HP5 HR5 ⊢
   have cI5 : w5.cell? ⟨gl, k * 3 + 2, none⟩ = .some m.iv := HP5.out.cell (j := 2) (by show 2 < 3; decide)
   have HI6 := hid (delAtPRule_any B m.iv m.items (zAc q m.seqs) w5 HR5.out.iAt HI2.out)
   clear cS4 fz
   go_wp2_with fail
   refine HI6.out.mono ?_
   rintro e w6 ⟨v6, rfl, ho6, hn6, hg6⟩
   have hf6 : ∃ A m c, v6 = .slice A m c := by
    rcases ho6.2 with ⟨e, -⟩ | ⟨_, _, _, e, -⟩
    ·exact ⟨_, _, _, e⟩
    ·exact ⟨_, _, _, e⟩
   obtain ⟨A6, n6, c6, rfl⟩ := hf6
   have R6 := RS.li (i' := rowE 96 5 PRule.C (.slice A6 n6 c6) (delAt m.items (zAc q m.seqs))) HR5.out hg6 ho6 hn6
   have hP6 := HP5.out.frame hg6 (fun e => (RS.ne HR5.out).2.1 rfl e rfl)
   have hP7 := hP6.put (cs' := (⟨m.name, delAt m.seqs (zAc q m.seqs), delAt m.items (zAc q m.seqs), .slice A4 n4 c4, .slice A6 n6 c6, rfl, rfl⟩ : Lm PRule).C) (j := 2) (by show 2 < 3; decide) (.slice A6 n6 c6) rfl
   have R7 := RS.lo (o' := rowE 135 3 Lm.C (.slice (some ⟨gl, 0, none⟩) ms.length capl) (zAm ms k (⟨m.name, delAt m.seqs (zAc q m.seqs), delAt m.items (zAc q m.seqs), .slice A4 n4 c4, .slice A6 n6 c6, rfl, rfl⟩ : Lm PRule))) R6 (zBj w6 gl (k * 3 + 2) (.slice A6 n6 c6)) (by have h := HPut.out _ _ hP7.1; exact h) (.inl rfl)
   have HR7 := hid R7
   have cI6 : w6.cell? ⟨gl, k * 3 + 2, none⟩ = .some m.iv := hP6.cell (j := 2) (by show 2 < 3; decide)
   have fz := hP6.frz
   clear R6 hP6 hP7 R7 ho6 hn6 hg6 HI6 cI5
   go_wp2_with fail
   go_meet
   exact ⟨⟨m.name, delAt m.seqs (zAc q m.seqs), delAt m.items (zAc q m.seqs), .slice A4 n4 c4, .slice A6 n6 c6, rfl, rfl⟩, HR7.out, by unfold zCl; exact (if_pos HSQ.out).symm⟩
  | false =>
   have HSQ := hid hs
   clear hile hlen0
   go_wp2_with fail
   go_meet
   refine ⟨m, ?_, by unfold zCl; exact (if_neg (by rw [show zDq q m.ls.seqs = false from HSQ.out]; decide)).symm⟩
   rw [zFv HK2.out (m := m) (by rw [← HM.out])]
   exact RB.out
 case rest =>
  obtain ⟨⟨nm', sq', it', sv', iv', s1', i1'⟩, R, hq⟩ := hcut
  dsimp only at R
  have hq2 : (zCl q m.ls).items = it' := by rw [← hq]; rfl
  have HQ := hid hq
  have HQ2 := hid hq2
  have HII : OwnE wc B 96 5 PRule.C iv' it' := R.iAt
  obtain ⟨Ai, ci, rfl, -⟩ := HII.slv
  have HOO : OwnE wc B 135 3 Lm.C (.slice (some ⟨gl, 0, none⟩) ms.length capl) (zAm ms k (⟨nm', sq', it', sv', .slice Ai it'.length ci, s1', i1'⟩ : Lm PRule)) := R.oAt
  have hks : k < (zAm ms k (⟨nm', sq', it', sv', .slice Ai it'.length ci, s1', i1'⟩ : Lm PRule)).length := by rw [zBf hkl]; exact hkl
  have cI : wc.cell? ⟨gl, k * 3 + 2, none⟩ = .some (.slice Ai it'.length ci) := by
   rw [HOO.cellAt (by decide) (fun _ => rfl) hks (by decide)]
   have e : (zAm ms k (⟨nm', sq', it', sv', .slice Ai it'.length ci, s1', i1'⟩ : Lm PRule))[k] = ⟨nm', sq', it', sv', .slice Ai it'.length ci, s1', i1'⟩ := by
    have h1 := List.getElem?_eq_getElem hks
    rw [zDa hkl] at h1
    exact (Option.some.inj h1).symm
   rw [e]
   rfl
  have HDL := hid (delAtLPRule_any B _ _ k wc HOO hks)
  have HR := hid R
  clear hq hq2 HII HOO hks R
  obtain ⟨n', hn'⟩ : ∃ n', n' = it'.length := ⟨_, rfl⟩
  have HN := hid hn'
  rw [← hn'] at cI
  clear hn'
  rcases Nat.eq_zero_or_pos n' with h0 | h0
  ·subst h0
   go_wp2_with fail
   refine HDL.out.mono ?_
   rintro e w8 ⟨v8, rfl, ho8, hn8, hg8⟩
   rw [zHj HK2.out] at ho8
   have R8 := RS.lo (o' := rowE 135 3 Lm.C v8 (delAt ms k)) HR.out hg8 ho8 hn8
   rw [HA.out, HBq.out] at R8
   have H8 := hid (R8.sub (zJt pre post ms k _ _ v8))
   clear R8 ho8 hn8 hg8
   go_wp2_with fail
   go_ret
   refine ⟨v8, delAt ms k, rfl, H8.out, ?_⟩
   rw [E1.out, HQ2.out, if_pos (by rw [List.isEmpty_iff]; exact List.eq_nil_of_length_eq_zero HN.out.symm), delAt_map]
  ·have hn0 : ¬ ((n' : Int) = 0) := by omega
   have hnz : ((n' : Int) == 0) = false := by simp; omega
   go_wp2_with fail
   go_ret
   have R9 := HR.out
   rw [HA.out, HBq.out] at R9
   have R10 := (zDm (Ti := 3) (Te := 96) (n := 5) (cells := PRule.C) (Tl := 135) (ms := ms) pre post k (⟨nm', sq', it', sv', .slice Ai it'.length ci, s1', i1'⟩ : Lm PRule) (.slice (some ⟨gl, 0, none⟩) ms.length capl)) ▸ R9
   refine ⟨_, zAm ms k ⟨nm', sq', it', sv', .slice Ai it'.length ci, s1', i1'⟩, rfl, R10, ?_⟩
   rw [E1.out, HQ2.out, if_neg (by rw [List.isEmpty_iff]; intro e; have := HN.out; rw [e] at this; simp at this; omega), zDo, ← HQ.out]
theorem removePRule_any (v : Value) (ms : List (Lm PRule)) (p : Ps) (w : World) (h : RS E 131 g b B w0 cs (pre ++ zAq 135 3 96 5 PRule.C v ms ++ post) p w) (hk : LsOk PRule.fit 1000000 (ms.map Lm.ls)) :
  Calls Tryz.prog 102 #[.pointer (some ⟨b, 0, none⟩), v] w (LsPost E 131 g b B w0 cs pre post 135 3 96 5 PRule.C (zBa p (ms.map Lm.ls)).1 (zBa p (ms.map Lm.ls)).2) := by
 have H := hid h
 have HK := hid hk
 clear h hk
 go_enter Tryz.func102, Tryz.ntmps102
 go_wp2_with fail
 refine (zBb b B p _ H.out.st).mono ?_
 rintro e w1 ⟨rfl, h1, k1⟩
 have H1 := hid (H.out.word h1 k1)
 clear h1 k1
 unfold strV
 have K2 : RL E 131 g b B w0 cs (pre ++ zAq 135 3 96 5 PRule.C v ms ++ post) (nmS p) 9 w1.heap.size #[.string (str (nmV p))] (w1.alloc (.cells #[.string (str (nmV p))] 9)) := RL.start H1.out (HasC.new _ _ _) (World.grownBy.refl _ _)
 have H2 := hid K2
 clear K2
 obtain ⟨Ar, cr, c0⟩ := H2.out.base.st.rest0
 have cn : (w1.alloc (.cells #[.string (str (nmV p))] 9)).cell? ⟨w1.heap.size, 0, none⟩ = .some (.string (str (nmV p))) := H2.out.loc.cell 0
 obtain ⟨n', hn'⟩ : ∃ n', n' = (nmS p).fs.length := ⟨_, rfl⟩
 rw [← hn'] at c0
 have HN := hid hn'
 clear hn'
 rcases Nat.eq_zero_or_pos n' with h0 | h0
 ·subst h0
  have EQ : Hid (zBa p (ms.map Lm.ls) = ((ms.map Lm.ls).filter (fun y => !(y.name == nmV p)), nmS p)) := hid (by unfold zBa; rw [if_pos (by rw [List.isEmpty_iff]; exact List.eq_nil_of_length_eq_zero HN.out.symm)])
  have R2 : RS E 131 g b B w0 cs (pre ++ rowE 135 3 Lm.C v ms :: (ms.flatMap (Lm.rows 3 96 5 PRule.C) ++ post)) (nmS p) (w1.alloc (.cells #[.string (str (nmV p))] 9)) := by
   have := H2.out.base
   unfold zAq at this
   simpa using this
  have HD := hid (zKr B v ms (fun y => y.name == nmV p) 165 #[.pointer (some ⟨w1.heap.size, 0, none⟩)] (enters_of Tryz.func165 (by kernel_rfl) rfl) _ R2.at [w1.heap.size] (predLRPRule (nmV p) w1.heap.size _ H2.out.loc) (fun c hc => by obtain rfl := List.mem_singleton.1 hc; exact zCr (pre := pre) (r := rowE 135 3 Lm.C v ms) (post := ms.flatMap (Lm.rows 3 96 5 PRule.C) ++ post) (by have := H2.out.xr; unfold zAq at this; simpa using this)))
  have HR2 := hid R2
  clear R2
  go_wp2_with fail
  refine HD.out.mono ?_
  rintro e w3 ⟨v3, rfl, ho3, hn3, hg3⟩
  have R3 := RS.row (r' := rowE 135 3 Lm.C v3 (dropL (fun y => y.name == nmV p) ms)) HR2.out hg3 ho3 hn3
  have H3 := hid (R3.sub (zHb pre post ms _ v3))
  clear R3 ho3 hn3 hg3
  go_wp2_with fail
  go_ret
  rw [EQ.out]
  exact ⟨v3, _, rfl, H3.out, by rw [List.filter_map]; rfl⟩
 ·have EQ : Hid (zBa p (ms.map Lm.ls) = (zFf (nmV p) (noV 1 65535 (nmS p)) (ms.map Lm.ls), noS 1 65535 (nmS p))) := hid (by unfold zBa; rw [if_neg (by rw [List.isEmpty_iff]; intro e; have := HN.out; rw [e] at this; simp at this; omega)])
  have hn0 : (0 : Int) < (n' : Int) := by omega
  have cnd : (w1.alloc (.cells #[.string (str (nmV p))] 9)).drew.cell? ⟨w1.heap.size, 0, none⟩ = .some (.string (str (nmV p))) := cn
  have HD := hid (H2.out.keep (zAv _))
  go_wp2_with fail
  go_region_law (first | (go_simp; go_at_call 163; refine (zCk b B _ _ HD.out.base.st).mono ?_; rintro e w3 ⟨rfl, h3, k3⟩; have H3 := hid (HD.out.word h3 k3); have cn3 : w3.cell? ⟨w1.heap.size, 0, none⟩ = .some (.string (str (nmV p))) := H3.out.loc.cell 0; clear h3 k3) | (go_simp; go_at_call 162; refine (dropPRule_any v ms (nmV p) (noV 1 65535 (nmS p)) _ _ H3.out.base HK.out).mono ?_; rintro e w4 ⟨v4, ms4, rfl, h4, e4⟩; have H4 := hid h4; have E4 := hid e4; clear h4 e4))
  all_goals
   go_wp2_with fail
   go_ret
   rw [EQ.out]
   exact ⟨v4, ms4, rfl, H4.out, E4.out⟩
end
section
variable {E : TypeId} {g b B : Nat} {w0 : World} {cs : Array Value} {pre post : List Orow}
theorem dropCl_any (v : Value) (ms : List (Lm Cl)) (name : List UInt8) (q : Int) (p : Ps) (w : World) (h : RS E 131 g b B w0 cs (pre ++ zAq 137 3 101 7 Cl.C v ms ++ post) p w) (hk : LsOk Cl.fit 1000000 (ms.map Lm.ls)) :
  Calls Tryz.prog 166 #[v, .string (str name), .int .i64 q] w (LsPost E 131 g b B w0 cs pre post 137 3 101 7 Cl.C (zFf name q (ms.map Lm.ls)) p) := by
 have hml : ms.length ≤ 1000000 := by have := hk.1; simpa using this
 have HO0 : OwnE w B 137 3 Lm.C v ms := h.own.1 (rowE 137 3 Lm.C v ms) (by simp [zAq])
 have R0 := hid h
 have HS := hid HO0.slv
 have HK := hid hk
 have HF := hid (zHs name ms)
 clear h hk HO0
 go_enter Tryz.func166, Tryz.ntmps166
 go_wp2_with fail
 refine (findCl_any _ ms name _ HS.out).mono ?_
 rintro e w1 ⟨rfl, hb1⟩
 have R1 := hid (R0.out.keep hb1)
 clear hb1 HS R0
 generalize idxF (fun m => m.name == name) ms 0 = kk at HF ⊢
 rcases HF.out with ⟨rfl, e2⟩ | ⟨k, hkl, rfl, e2⟩
 ·have E2 := hid (zIi name q e2)
  clear e2
  go_wp2_with fail
  go_ret
  exact ⟨_, ms, rfl, R1.out, E2.out.symm⟩
 have hk0 : ¬ ((k : Int) < 0) := by omega
 have hkz : (k : Int) < (ms.length : Int) := by omega
 have hk00 : (0 : Int) ≤ (k : Int) := by omega
 have hkw : IntKind.i64.wrap ((k : Int) + 1) = (k : Int) + 1 := by rw [IntKind.wrap_i64]; omega
 have R := R1.out
 rw [zFt pre post hkl] at R
 obtain ⟨m, hm⟩ : ∃ m, m = ms[k] := ⟨_, rfl⟩
 rw [← hm] at R
 have E1 : Hid (zFf name q (ms.map Lm.ls) = if (zCl q m.ls).items.isEmpty then delAt (ms.map Lm.ls) k else zAm (ms.map Lm.ls) k (zCl q m.ls)) := hid (by rw [dropLs_at hkl name q e2, ← hm])
 have HL : Hid (LsOne Cl.fit 1000000 m.ls) := hid (by rw [hm]; exact HK.out.2 _ (List.mem_map_of_mem (List.getElem_mem hkl)))
 obtain ⟨A, hA⟩ : ∃ A, A = (ms.take k).flatMap (Lm.rows 3 101 7 Cl.C) := ⟨_, rfl⟩
 obtain ⟨Bq, hBq⟩ : ∃ A, A = (ms.drop (k + 1)).flatMap (Lm.rows 3 101 7 Cl.C) := ⟨_, rfl⟩
 rw [← hA, ← hBq] at R
 have HO : OwnE w1 B 137 3 Lm.C v ms := R.oAt
 obtain ⟨gl, capl, curl, rfl, hglB, hpt, hput⟩ := HO.part (by decide) (fun _ => rfl) hkl
 rw [← hm] at hpt
 have hlen0 : m.items.length ≤ 1000000 ∧ m.items.length = m.seqs.length := ⟨HL.out.items.1, HL.out.len⟩
 have HB := hid (zEu B m.sv m.seqs q w1 R.sAt HL.out.asc (by omega))
 have RC := hid R
 have HPC := hid hpt
 have HPut := hid hput
 have HA := hid hA
 have HBq := hid hBq
 have HM := hid hm
 have cS : w1.cell? ⟨gl, k * 3 + 1, none⟩ = .some m.sv := hpt.cell (j := 1) (by show 1 < 3; decide)
 clear R hpt hput hA hBq hm HO R1 e2 HF
 go_wp2_with fail
 refine HB.out.mono ?_
 rintro e wb ⟨rfl, hb2⟩
 have RB := hid (RC.out.keep hb2)
 have HPT := hid (HPC.out.below hb2)
 have HK2 := hid hkl
 clear hb2 cS HB RC HPC
 have hile := zEg q m.seqs
 go_upto_if 29 with (fail)
 go_cut [10] (fun f0 wx => ∃ m' : Lm Cl, RS E 131 g b B w0 cs (lf pre A Bq post (rowE 137 3 Lm.C (.slice (some ⟨gl, 0, none⟩) ms.length capl) (zAm ms k m')) (rowE 3 1 intC m'.sv m'.seqs) (rowE 101 7 Cl.C m'.iv m'.items)) p wx ∧ m'.ls = zCl q m.ls)
 case first =>
  cases hs : zDq q m.seqs with
  | true =>
   have hi := zEl hs
   have hi2 : zAc q m.seqs < m.items.length := by omega
   have hw1 : IntKind.i64.wrap (((zAc q m.seqs : Nat) : Int) + 1) = ((zAc q m.seqs : Nat) : Int) + 1 := by rw [IntKind.wrap_i64]; omega
   have HD := hid (zHi B m.sv m.seqs (zAc q m.seqs) wb RB.out.sAt hi)
   have cS : wb.cell? ⟨gl, k * 3 + 1, none⟩ = .some m.sv := HPT.out.cell (j := 1) (by show 1 < 3; decide)
   have HSQ := hid hs
   have HI2 := hid hi2
   clear hs hi hi2 hile hlen0
   go_wp2_with fail
   refine HD.out.mono ?_
   rintro e w4 ⟨v4, rfl, ho4, hn4, hg4⟩
   have R4 := RS.ls (s' := rowE 3 1 intC v4 (delAt m.seqs (zAc q m.seqs))) RB.out hg4 ho4 hn4
   have hP4 := HPT.out.frame hg4 (fun e => (RS.ne RB.out).1 rfl e rfl)
   have hf4 : ∃ A m c, v4 = .slice A m c := by
    rcases ho4.2 with ⟨e, -⟩ | ⟨_, _, _, e, -⟩
    ·exact ⟨_, _, _, e⟩
    ·exact ⟨_, _, _, e⟩
   obtain ⟨A4, n4, c4, rfl⟩ := hf4
   have hP5 := hP4.put (cs' := (⟨m.name, delAt m.seqs (zAc q m.seqs), m.items, .slice A4 n4 c4, m.iv, rfl, m.i1⟩ : Lm Cl).C) (j := 1) (by show 1 < 3; decide) (.slice A4 n4 c4) rfl
   have R5 := RS.lo (o' := rowE 137 3 Lm.C (.slice (some ⟨gl, 0, none⟩) ms.length capl) (zAm ms k (⟨m.name, delAt m.seqs (zAc q m.seqs), m.items, .slice A4 n4 c4, m.iv, rfl, m.i1⟩ : Lm Cl))) R4 (zBj w4 gl (k * 3 + 1) (.slice A4 n4 c4)) (by have h := HPut.out _ _ hP5.1; exact h) (.inl rfl)
   have HP5 := hid hP5
   have HR5 := hid R5
   have cS4 : w4.cell? ⟨gl, k * 3 + 1, none⟩ = .some m.sv := hP4.cell (j := 1) (by show 1 < 3; decide)
   have fz := hP4.frz
   clear R4 hP4 hP5 R5 ho4 hn4 hg4 HD cS
   go_upto_region 8 with (fail)
   generalize w4.setCell ⟨gl, k * 3 + 1, none⟩ (.slice A4 n4 c4) = w5 at HP5 HR5 ⊢
   have cI5 : w5.cell? ⟨gl, k * 3 + 2, none⟩ = .some m.iv := HP5.out.cell (j := 2) (by show 2 < 3; decide)
   have HI6 := hid (delAtCl_any B m.iv m.items (zAc q m.seqs) w5 HR5.out.iAt HI2.out)
   clear cS4 fz
   go_wp2_with fail
   refine HI6.out.mono ?_
   rintro e w6 ⟨v6, rfl, ho6, hn6, hg6⟩
   have hf6 : ∃ A m c, v6 = .slice A m c := by
    rcases ho6.2 with ⟨e, -⟩ | ⟨_, _, _, e, -⟩
    ·exact ⟨_, _, _, e⟩
    ·exact ⟨_, _, _, e⟩
   obtain ⟨A6, n6, c6, rfl⟩ := hf6
   have R6 := RS.li (i' := rowE 101 7 Cl.C (.slice A6 n6 c6) (delAt m.items (zAc q m.seqs))) HR5.out hg6 ho6 hn6
   have hP6 := HP5.out.frame hg6 (fun e => (RS.ne HR5.out).2.1 rfl e rfl)
   have hP7 := hP6.put (cs' := (⟨m.name, delAt m.seqs (zAc q m.seqs), delAt m.items (zAc q m.seqs), .slice A4 n4 c4, .slice A6 n6 c6, rfl, rfl⟩ : Lm Cl).C) (j := 2) (by show 2 < 3; decide) (.slice A6 n6 c6) rfl
   have R7 := RS.lo (o' := rowE 137 3 Lm.C (.slice (some ⟨gl, 0, none⟩) ms.length capl) (zAm ms k (⟨m.name, delAt m.seqs (zAc q m.seqs), delAt m.items (zAc q m.seqs), .slice A4 n4 c4, .slice A6 n6 c6, rfl, rfl⟩ : Lm Cl))) R6 (zBj w6 gl (k * 3 + 2) (.slice A6 n6 c6)) (by have h := HPut.out _ _ hP7.1; exact h) (.inl rfl)
   have HR7 := hid R7
   have cI6 : w6.cell? ⟨gl, k * 3 + 2, none⟩ = .some m.iv := hP6.cell (j := 2) (by show 2 < 3; decide)
   have fz := hP6.frz
   clear R6 hP6 hP7 R7 ho6 hn6 hg6 HI6 cI5
   go_wp2_with fail
   go_meet
   exact ⟨⟨m.name, delAt m.seqs (zAc q m.seqs), delAt m.items (zAc q m.seqs), .slice A4 n4 c4, .slice A6 n6 c6, rfl, rfl⟩, HR7.out, by unfold zCl; exact (if_pos HSQ.out).symm⟩
  | false =>
   have HSQ := hid hs
   clear hile hlen0
   go_wp2_with fail
   go_meet
   refine ⟨m, ?_, by unfold zCl; exact (if_neg (by rw [show zDq q m.ls.seqs = false from HSQ.out]; decide)).symm⟩
   rw [zFv HK2.out (m := m) (by rw [← HM.out])]
   exact RB.out
 case rest =>
  obtain ⟨⟨nm', sq', it', sv', iv', s1', i1'⟩, R, hq⟩ := hcut
  dsimp only at R
  have hq2 : (zCl q m.ls).items = it' := by rw [← hq]; rfl
  have HQ := hid hq
  have HQ2 := hid hq2
  have HII : OwnE wc B 101 7 Cl.C iv' it' := R.iAt
  obtain ⟨Ai, ci, rfl, -⟩ := HII.slv
  have HOO : OwnE wc B 137 3 Lm.C (.slice (some ⟨gl, 0, none⟩) ms.length capl) (zAm ms k (⟨nm', sq', it', sv', .slice Ai it'.length ci, s1', i1'⟩ : Lm Cl)) := R.oAt
  have hks : k < (zAm ms k (⟨nm', sq', it', sv', .slice Ai it'.length ci, s1', i1'⟩ : Lm Cl)).length := by rw [zBf hkl]; exact hkl
  have cI : wc.cell? ⟨gl, k * 3 + 2, none⟩ = .some (.slice Ai it'.length ci) := by
   rw [HOO.cellAt (by decide) (fun _ => rfl) hks (by decide)]
   have e : (zAm ms k (⟨nm', sq', it', sv', .slice Ai it'.length ci, s1', i1'⟩ : Lm Cl))[k] = ⟨nm', sq', it', sv', .slice Ai it'.length ci, s1', i1'⟩ := by
    have h1 := List.getElem?_eq_getElem hks
    rw [zDa hkl] at h1
    exact (Option.some.inj h1).symm
   rw [e]
   rfl
  have HDL := hid (delAtLCl_any B _ _ k wc HOO hks)
  have HR := hid R
  clear hq hq2 HII HOO hks R
  obtain ⟨n', hn'⟩ : ∃ n', n' = it'.length := ⟨_, rfl⟩
  have HN := hid hn'
  rw [← hn'] at cI
  clear hn'
  rcases Nat.eq_zero_or_pos n' with h0 | h0
  ·subst h0
   go_wp2_with fail
   refine HDL.out.mono ?_
   rintro e w8 ⟨v8, rfl, ho8, hn8, hg8⟩
   rw [zHj HK2.out] at ho8
   have R8 := RS.lo (o' := rowE 137 3 Lm.C v8 (delAt ms k)) HR.out hg8 ho8 hn8
   rw [HA.out, HBq.out] at R8
   have H8 := hid (R8.sub (zJt pre post ms k _ _ v8))
   clear R8 ho8 hn8 hg8
   go_wp2_with fail
   go_ret
   refine ⟨v8, delAt ms k, rfl, H8.out, ?_⟩
   rw [E1.out, HQ2.out, if_pos (by rw [List.isEmpty_iff]; exact List.eq_nil_of_length_eq_zero HN.out.symm), delAt_map]
  ·have hn0 : ¬ ((n' : Int) = 0) := by omega
   have hnz : ((n' : Int) == 0) = false := by simp; omega
   go_wp2_with fail
   go_ret
   have R9 := HR.out
   rw [HA.out, HBq.out] at R9
   have R10 := (zDm (Ti := 3) (Te := 101) (n := 7) (cells := Cl.C) (Tl := 137) (ms := ms) pre post k (⟨nm', sq', it', sv', .slice Ai it'.length ci, s1', i1'⟩ : Lm Cl) (.slice (some ⟨gl, 0, none⟩) ms.length capl)) ▸ R9
   refine ⟨_, zAm ms k ⟨nm', sq', it', sv', .slice Ai it'.length ci, s1', i1'⟩, rfl, R10, ?_⟩
   rw [E1.out, HQ2.out, if_neg (by rw [List.isEmpty_iff]; intro e; have := HN.out; rw [e] at this; simp at this; omega), zDo, ← HQ.out]
theorem removeCl_any (v : Value) (ms : List (Lm Cl)) (p : Ps) (w : World) (h : RS E 131 g b B w0 cs (pre ++ zAq 137 3 101 7 Cl.C v ms ++ post) p w) (hk : LsOk Cl.fit 1000000 (ms.map Lm.ls)) :
  Calls Tryz.prog 103 #[.pointer (some ⟨b, 0, none⟩), v] w (LsPost E 131 g b B w0 cs pre post 137 3 101 7 Cl.C (zBa p (ms.map Lm.ls)).1 (zBa p (ms.map Lm.ls)).2) := by
 have H := hid h
 have HK := hid hk
 clear h hk
 go_enter Tryz.func103, Tryz.ntmps103
 go_wp2_with fail
 refine (zBb b B p _ H.out.st).mono ?_
 rintro e w1 ⟨rfl, h1, k1⟩
 have H1 := hid (H.out.word h1 k1)
 clear h1 k1
 unfold strV
 have K2 : RL E 131 g b B w0 cs (pre ++ zAq 137 3 101 7 Cl.C v ms ++ post) (nmS p) 9 w1.heap.size #[.string (str (nmV p))] (w1.alloc (.cells #[.string (str (nmV p))] 9)) := RL.start H1.out (HasC.new _ _ _) (World.grownBy.refl _ _)
 have H2 := hid K2
 clear K2
 obtain ⟨Ar, cr, c0⟩ := H2.out.base.st.rest0
 have cn : (w1.alloc (.cells #[.string (str (nmV p))] 9)).cell? ⟨w1.heap.size, 0, none⟩ = .some (.string (str (nmV p))) := H2.out.loc.cell 0
 obtain ⟨n', hn'⟩ : ∃ n', n' = (nmS p).fs.length := ⟨_, rfl⟩
 rw [← hn'] at c0
 have HN := hid hn'
 clear hn'
 rcases Nat.eq_zero_or_pos n' with h0 | h0
 ·subst h0
  have EQ : Hid (zBa p (ms.map Lm.ls) = ((ms.map Lm.ls).filter (fun y => !(y.name == nmV p)), nmS p)) := hid (by unfold zBa; rw [if_pos (by rw [List.isEmpty_iff]; exact List.eq_nil_of_length_eq_zero HN.out.symm)])
  have R2 : RS E 131 g b B w0 cs (pre ++ rowE 137 3 Lm.C v ms :: (ms.flatMap (Lm.rows 3 101 7 Cl.C) ++ post)) (nmS p) (w1.alloc (.cells #[.string (str (nmV p))] 9)) := by
   have := H2.out.base
   unfold zAq at this
   simpa using this
  have HD := hid (deleteLCl_any B v ms (fun y => y.name == nmV p) 168 #[.pointer (some ⟨w1.heap.size, 0, none⟩)] (enters_of Tryz.func168 (by kernel_rfl) rfl) _ R2.at [w1.heap.size] (predLRCl (nmV p) w1.heap.size _ H2.out.loc) (fun c hc => by obtain rfl := List.mem_singleton.1 hc; exact zCr (pre := pre) (r := rowE 137 3 Lm.C v ms) (post := ms.flatMap (Lm.rows 3 101 7 Cl.C) ++ post) (by have := H2.out.xr; unfold zAq at this; simpa using this)))
  have HR2 := hid R2
  clear R2
  go_wp2_with fail
  refine HD.out.mono ?_
  rintro e w3 ⟨v3, rfl, ho3, hn3, hg3⟩
  have R3 := RS.row (r' := rowE 137 3 Lm.C v3 (dropL (fun y => y.name == nmV p) ms)) HR2.out hg3 ho3 hn3
  have H3 := hid (R3.sub (zHb pre post ms _ v3))
  clear R3 ho3 hn3 hg3
  go_wp2_with fail
  go_ret
  rw [EQ.out]
  exact ⟨v3, _, rfl, H3.out, by rw [List.filter_map]; rfl⟩
 ·have EQ : Hid (zBa p (ms.map Lm.ls) = (zFf (nmV p) (noV 1 65535 (nmS p)) (ms.map Lm.ls), noS 1 65535 (nmS p))) := hid (by unfold zBa; rw [if_neg (by rw [List.isEmpty_iff]; intro e; have := HN.out; rw [e] at this; simp at this; omega)])
  have hn0 : (0 : Int) < (n' : Int) := by omega
  have cnd : (w1.alloc (.cells #[.string (str (nmV p))] 9)).drew.cell? ⟨w1.heap.size, 0, none⟩ = .some (.string (str (nmV p))) := cn
  have HD := hid (H2.out.keep (zAv _))
  go_wp2_with fail
  go_region_law (first | (go_simp; go_at_call 163; refine (zCk b B _ _ HD.out.base.st).mono ?_; rintro e w3 ⟨rfl, h3, k3⟩; have H3 := hid (HD.out.word h3 k3); have cn3 : w3.cell? ⟨w1.heap.size, 0, none⟩ = .some (.string (str (nmV p))) := H3.out.loc.cell 0; clear h3 k3) | (go_simp; go_at_call 166; refine (dropCl_any v ms (nmV p) (noV 1 65535 (nmS p)) _ _ H3.out.base HK.out).mono ?_; rintro e w4 ⟨v4, ms4, rfl, h4, e4⟩; have H4 := hid h4; have E4 := hid e4; clear h4 e4))
  all_goals
   go_wp2_with fail
   go_ret
   rw [EQ.out]
   exact ⟨v4, ms4, rfl, H4.out, E4.out⟩
end
section
variable {E : TypeId} {g b B : Nat} {w0 : World} {cs : Array Value} {pre post : List Orow}
theorem dropRu_any (v : Value) (ms : List (Lm Ru)) (name : List UInt8) (q : Int) (p : Ps) (w : World) (h : RS E 131 g b B w0 cs (pre ++ zAq 139 3 110 10 Ru.C v ms ++ post) p w) (hk : LsOk Ru.fit 1000000 (ms.map Lm.ls)) :
  Calls Tryz.prog 169 #[v, .string (str name), .int .i64 q] w (LsPost E 131 g b B w0 cs pre post 139 3 110 10 Ru.C (zFf name q (ms.map Lm.ls)) p) := by
 have hml : ms.length ≤ 1000000 := by have := hk.1; simpa using this
 have HO0 : OwnE w B 139 3 Lm.C v ms := h.own.1 (rowE 139 3 Lm.C v ms) (by simp [zAq])
 have R0 := hid h
 have HS := hid HO0.slv
 have HK := hid hk
 have HF := hid (zHs name ms)
 clear h hk HO0
 go_enter Tryz.func169, Tryz.ntmps169
 go_wp2_with fail
 refine (findRu_any _ ms name _ HS.out).mono ?_
 rintro e w1 ⟨rfl, hb1⟩
 have R1 := hid (R0.out.keep hb1)
 clear hb1 HS R0
 generalize idxF (fun m => m.name == name) ms 0 = kk at HF ⊢
 rcases HF.out with ⟨rfl, e2⟩ | ⟨k, hkl, rfl, e2⟩
 ·have E2 := hid (zIi name q e2)
  clear e2
  go_wp2_with fail
  go_ret
  exact ⟨_, ms, rfl, R1.out, E2.out.symm⟩
 have hk0 : ¬ ((k : Int) < 0) := by omega
 have hkz : (k : Int) < (ms.length : Int) := by omega
 have hk00 : (0 : Int) ≤ (k : Int) := by omega
 have hkw : IntKind.i64.wrap ((k : Int) + 1) = (k : Int) + 1 := by rw [IntKind.wrap_i64]; omega
 have R := R1.out
 rw [zFt pre post hkl] at R
 obtain ⟨m, hm⟩ : ∃ m, m = ms[k] := ⟨_, rfl⟩
 rw [← hm] at R
 have E1 : Hid (zFf name q (ms.map Lm.ls) = if (zCl q m.ls).items.isEmpty then delAt (ms.map Lm.ls) k else zAm (ms.map Lm.ls) k (zCl q m.ls)) := hid (by rw [dropLs_at hkl name q e2, ← hm])
 have HL : Hid (LsOne Ru.fit 1000000 m.ls) := hid (by rw [hm]; exact HK.out.2 _ (List.mem_map_of_mem (List.getElem_mem hkl)))
 obtain ⟨A, hA⟩ : ∃ A, A = (ms.take k).flatMap (Lm.rows 3 110 10 Ru.C) := ⟨_, rfl⟩
 obtain ⟨Bq, hBq⟩ : ∃ A, A = (ms.drop (k + 1)).flatMap (Lm.rows 3 110 10 Ru.C) := ⟨_, rfl⟩
 rw [← hA, ← hBq] at R
 have HO : OwnE w1 B 139 3 Lm.C v ms := R.oAt
 obtain ⟨gl, capl, curl, rfl, hglB, hpt, hput⟩ := HO.part (by decide) (fun _ => rfl) hkl
 rw [← hm] at hpt
 have hlen0 : m.items.length ≤ 1000000 ∧ m.items.length = m.seqs.length := ⟨HL.out.items.1, HL.out.len⟩
 have HB := hid (zEu B m.sv m.seqs q w1 R.sAt HL.out.asc (by omega))
 have RC := hid R
 have HPC := hid hpt
 have HPut := hid hput
 have HA := hid hA
 have HBq := hid hBq
 have HM := hid hm
 have cS : w1.cell? ⟨gl, k * 3 + 1, none⟩ = .some m.sv := hpt.cell (j := 1) (by show 1 < 3; decide)
 clear R hpt hput hA hBq hm HO R1 e2 HF
 go_wp2_with fail
 refine HB.out.mono ?_
 rintro e wb ⟨rfl, hb2⟩
 have RB := hid (RC.out.keep hb2)
 have HPT := hid (HPC.out.below hb2)
 have HK2 := hid hkl
 clear hb2 cS HB RC HPC
 have hile := zEg q m.seqs
 go_upto_if 29 with (fail)
 go_cut [10] (fun f0 wx => ∃ m' : Lm Ru, RS E 131 g b B w0 cs (lf pre A Bq post (rowE 139 3 Lm.C (.slice (some ⟨gl, 0, none⟩) ms.length capl) (zAm ms k m')) (rowE 3 1 intC m'.sv m'.seqs) (rowE 110 10 Ru.C m'.iv m'.items)) p wx ∧ m'.ls = zCl q m.ls)
 case first =>
  cases hs : zDq q m.seqs with
  | true =>
   have hi := zEl hs
   have hi2 : zAc q m.seqs < m.items.length := by omega
   have hw1 : IntKind.i64.wrap (((zAc q m.seqs : Nat) : Int) + 1) = ((zAc q m.seqs : Nat) : Int) + 1 := by rw [IntKind.wrap_i64]; omega
   have HD := hid (zHi B m.sv m.seqs (zAc q m.seqs) wb RB.out.sAt hi)
   have cS : wb.cell? ⟨gl, k * 3 + 1, none⟩ = .some m.sv := HPT.out.cell (j := 1) (by show 1 < 3; decide)
   have HSQ := hid hs
   have HI2 := hid hi2
   clear hs hi hi2 hile hlen0
   go_wp2_with fail
   refine HD.out.mono ?_
   rintro e w4 ⟨v4, rfl, ho4, hn4, hg4⟩
   have R4 := RS.ls (s' := rowE 3 1 intC v4 (delAt m.seqs (zAc q m.seqs))) RB.out hg4 ho4 hn4
   have hP4 := HPT.out.frame hg4 (fun e => (RS.ne RB.out).1 rfl e rfl)
   have hf4 : ∃ A m c, v4 = .slice A m c := by
    rcases ho4.2 with ⟨e, -⟩ | ⟨_, _, _, e, -⟩
    ·exact ⟨_, _, _, e⟩
    ·exact ⟨_, _, _, e⟩
   obtain ⟨A4, n4, c4, rfl⟩ := hf4
   have hP5 := hP4.put (cs' := (⟨m.name, delAt m.seqs (zAc q m.seqs), m.items, .slice A4 n4 c4, m.iv, rfl, m.i1⟩ : Lm Ru).C) (j := 1) (by show 1 < 3; decide) (.slice A4 n4 c4) rfl
   have R5 := RS.lo (o' := rowE 139 3 Lm.C (.slice (some ⟨gl, 0, none⟩) ms.length capl) (zAm ms k (⟨m.name, delAt m.seqs (zAc q m.seqs), m.items, .slice A4 n4 c4, m.iv, rfl, m.i1⟩ : Lm Ru))) R4 (zBj w4 gl (k * 3 + 1) (.slice A4 n4 c4)) (by have h := HPut.out _ _ hP5.1; exact h) (.inl rfl)
   have HP5 := hid hP5
   have HR5 := hid R5
   have cS4 : w4.cell? ⟨gl, k * 3 + 1, none⟩ = .some m.sv := hP4.cell (j := 1) (by show 1 < 3; decide)
   have fz := hP4.frz
   clear R4 hP4 hP5 R5 ho4 hn4 hg4 HD cS
   go_upto_region 8 with (fail)
   generalize w4.setCell ⟨gl, k * 3 + 1, none⟩ (.slice A4 n4 c4) = w5 at HP5 HR5 ⊢
   have cI5 : w5.cell? ⟨gl, k * 3 + 2, none⟩ = .some m.iv := HP5.out.cell (j := 2) (by show 2 < 3; decide)
   have HI6 := hid (delAtRu_any B m.iv m.items (zAc q m.seqs) w5 HR5.out.iAt HI2.out)
   clear cS4 fz
   go_wp2_with fail
   refine HI6.out.mono ?_
   rintro e w6 ⟨v6, rfl, ho6, hn6, hg6⟩
   have hf6 : ∃ A m c, v6 = .slice A m c := by
    rcases ho6.2 with ⟨e, -⟩ | ⟨_, _, _, e, -⟩
    ·exact ⟨_, _, _, e⟩
    ·exact ⟨_, _, _, e⟩
   obtain ⟨A6, n6, c6, rfl⟩ := hf6
   have R6 := RS.li (i' := rowE 110 10 Ru.C (.slice A6 n6 c6) (delAt m.items (zAc q m.seqs))) HR5.out hg6 ho6 hn6
   have hP6 := HP5.out.frame hg6 (fun e => (RS.ne HR5.out).2.1 rfl e rfl)
   have hP7 := hP6.put (cs' := (⟨m.name, delAt m.seqs (zAc q m.seqs), delAt m.items (zAc q m.seqs), .slice A4 n4 c4, .slice A6 n6 c6, rfl, rfl⟩ : Lm Ru).C) (j := 2) (by show 2 < 3; decide) (.slice A6 n6 c6) rfl
   have R7 := RS.lo (o' := rowE 139 3 Lm.C (.slice (some ⟨gl, 0, none⟩) ms.length capl) (zAm ms k (⟨m.name, delAt m.seqs (zAc q m.seqs), delAt m.items (zAc q m.seqs), .slice A4 n4 c4, .slice A6 n6 c6, rfl, rfl⟩ : Lm Ru))) R6 (zBj w6 gl (k * 3 + 2) (.slice A6 n6 c6)) (by have h := HPut.out _ _ hP7.1; exact h) (.inl rfl)
   have HR7 := hid R7
   have cI6 : w6.cell? ⟨gl, k * 3 + 2, none⟩ = .some m.iv := hP6.cell (j := 2) (by show 2 < 3; decide)
   have fz := hP6.frz
   clear R6 hP6 hP7 R7 ho6 hn6 hg6 HI6 cI5
   go_wp2_with fail
   go_meet
   exact ⟨⟨m.name, delAt m.seqs (zAc q m.seqs), delAt m.items (zAc q m.seqs), .slice A4 n4 c4, .slice A6 n6 c6, rfl, rfl⟩, HR7.out, by unfold zCl; exact (if_pos HSQ.out).symm⟩
  | false =>
   have HSQ := hid hs
   clear hile hlen0
   go_wp2_with fail
   go_meet
   refine ⟨m, ?_, by unfold zCl; exact (if_neg (by rw [show zDq q m.ls.seqs = false from HSQ.out]; decide)).symm⟩
   rw [zFv HK2.out (m := m) (by rw [← HM.out])]
   exact RB.out
 case rest =>
  obtain ⟨⟨nm', sq', it', sv', iv', s1', i1'⟩, R, hq⟩ := hcut
  dsimp only at R
  have hq2 : (zCl q m.ls).items = it' := by rw [← hq]; rfl
  have HQ := hid hq
  have HQ2 := hid hq2
  have HII : OwnE wc B 110 10 Ru.C iv' it' := R.iAt
  obtain ⟨Ai, ci, rfl, -⟩ := HII.slv
  have HOO : OwnE wc B 139 3 Lm.C (.slice (some ⟨gl, 0, none⟩) ms.length capl) (zAm ms k (⟨nm', sq', it', sv', .slice Ai it'.length ci, s1', i1'⟩ : Lm Ru)) := R.oAt
  have hks : k < (zAm ms k (⟨nm', sq', it', sv', .slice Ai it'.length ci, s1', i1'⟩ : Lm Ru)).length := by rw [zBf hkl]; exact hkl
  have cI : wc.cell? ⟨gl, k * 3 + 2, none⟩ = .some (.slice Ai it'.length ci) := by
   rw [HOO.cellAt (by decide) (fun _ => rfl) hks (by decide)]
   have e : (zAm ms k (⟨nm', sq', it', sv', .slice Ai it'.length ci, s1', i1'⟩ : Lm Ru))[k] = ⟨nm', sq', it', sv', .slice Ai it'.length ci, s1', i1'⟩ := by
    have h1 := List.getElem?_eq_getElem hks
    rw [zDa hkl] at h1
    exact (Option.some.inj h1).symm
   rw [e]
   rfl
  have HDL := hid (delAtLRu_any B _ _ k wc HOO hks)
  have HR := hid R
  clear hq hq2 HII HOO hks R
  obtain ⟨n', hn'⟩ : ∃ n', n' = it'.length := ⟨_, rfl⟩
  have HN := hid hn'
  rw [← hn'] at cI
  clear hn'
  rcases Nat.eq_zero_or_pos n' with h0 | h0
  ·subst h0
   go_wp2_with fail
   refine HDL.out.mono ?_
   rintro e w8 ⟨v8, rfl, ho8, hn8, hg8⟩
   rw [zHj HK2.out] at ho8
   have R8 := RS.lo (o' := rowE 139 3 Lm.C v8 (delAt ms k)) HR.out hg8 ho8 hn8
   rw [HA.out, HBq.out] at R8
   have H8 := hid (R8.sub (zJt pre post ms k _ _ v8))
   clear R8 ho8 hn8 hg8
   go_wp2_with fail
   go_ret
   refine ⟨v8, delAt ms k, rfl, H8.out, ?_⟩
   rw [E1.out, HQ2.out, if_pos (by rw [List.isEmpty_iff]; exact List.eq_nil_of_length_eq_zero HN.out.symm), delAt_map]
  ·have hn0 : ¬ ((n' : Int) = 0) := by omega
   have hnz : ((n' : Int) == 0) = false := by simp; omega
   go_wp2_with fail
   go_ret
   have R9 := HR.out
   rw [HA.out, HBq.out] at R9
   have R10 := (zDm (Ti := 3) (Te := 110) (n := 10) (cells := Ru.C) (Tl := 139) (ms := ms) pre post k (⟨nm', sq', it', sv', .slice Ai it'.length ci, s1', i1'⟩ : Lm Ru) (.slice (some ⟨gl, 0, none⟩) ms.length capl)) ▸ R9
   refine ⟨_, zAm ms k ⟨nm', sq', it', sv', .slice Ai it'.length ci, s1', i1'⟩, rfl, R10, ?_⟩
   rw [E1.out, HQ2.out, if_neg (by rw [List.isEmpty_iff]; intro e; have := HN.out; rw [e] at this; simp at this; omega), zDo, ← HQ.out]
theorem removeRu_any (v : Value) (ms : List (Lm Ru)) (p : Ps) (w : World) (h : RS E 131 g b B w0 cs (pre ++ zAq 139 3 110 10 Ru.C v ms ++ post) p w) (hk : LsOk Ru.fit 1000000 (ms.map Lm.ls)) :
  Calls Tryz.prog 104 #[.pointer (some ⟨b, 0, none⟩), v] w (LsPost E 131 g b B w0 cs pre post 139 3 110 10 Ru.C (zBa p (ms.map Lm.ls)).1 (zBa p (ms.map Lm.ls)).2) := by
 have H := hid h
 have HK := hid hk
 clear h hk
 go_enter Tryz.func104, Tryz.ntmps104
 go_wp2_with fail
 refine (zBb b B p _ H.out.st).mono ?_
 rintro e w1 ⟨rfl, h1, k1⟩
 have H1 := hid (H.out.word h1 k1)
 clear h1 k1
 unfold strV
 have K2 : RL E 131 g b B w0 cs (pre ++ zAq 139 3 110 10 Ru.C v ms ++ post) (nmS p) 9 w1.heap.size #[.string (str (nmV p))] (w1.alloc (.cells #[.string (str (nmV p))] 9)) := RL.start H1.out (HasC.new _ _ _) (World.grownBy.refl _ _)
 have H2 := hid K2
 clear K2
 obtain ⟨Ar, cr, c0⟩ := H2.out.base.st.rest0
 have cn : (w1.alloc (.cells #[.string (str (nmV p))] 9)).cell? ⟨w1.heap.size, 0, none⟩ = .some (.string (str (nmV p))) := H2.out.loc.cell 0
 obtain ⟨n', hn'⟩ : ∃ n', n' = (nmS p).fs.length := ⟨_, rfl⟩
 rw [← hn'] at c0
 have HN := hid hn'
 clear hn'
 rcases Nat.eq_zero_or_pos n' with h0 | h0
 ·subst h0
  have EQ : Hid (zBa p (ms.map Lm.ls) = ((ms.map Lm.ls).filter (fun y => !(y.name == nmV p)), nmS p)) := hid (by unfold zBa; rw [if_pos (by rw [List.isEmpty_iff]; exact List.eq_nil_of_length_eq_zero HN.out.symm)])
  have R2 : RS E 131 g b B w0 cs (pre ++ rowE 139 3 Lm.C v ms :: (ms.flatMap (Lm.rows 3 110 10 Ru.C) ++ post)) (nmS p) (w1.alloc (.cells #[.string (str (nmV p))] 9)) := by
   have := H2.out.base
   unfold zAq at this
   simpa using this
  have HD := hid (deleteLRu_any B v ms (fun y => y.name == nmV p) 171 #[.pointer (some ⟨w1.heap.size, 0, none⟩)] (enters_of Tryz.func171 (by kernel_rfl) rfl) _ R2.at [w1.heap.size] (predLRRu (nmV p) w1.heap.size _ H2.out.loc) (fun c hc => by obtain rfl := List.mem_singleton.1 hc; exact zCr (pre := pre) (r := rowE 139 3 Lm.C v ms) (post := ms.flatMap (Lm.rows 3 110 10 Ru.C) ++ post) (by have := H2.out.xr; unfold zAq at this; simpa using this)))
  have HR2 := hid R2
  clear R2
  go_wp2_with fail
  refine HD.out.mono ?_
  rintro e w3 ⟨v3, rfl, ho3, hn3, hg3⟩
  have R3 := RS.row (r' := rowE 139 3 Lm.C v3 (dropL (fun y => y.name == nmV p) ms)) HR2.out hg3 ho3 hn3
  have H3 := hid (R3.sub (zHb pre post ms _ v3))
  clear R3 ho3 hn3 hg3
  go_wp2_with fail
  go_ret
  rw [EQ.out]
  exact ⟨v3, _, rfl, H3.out, by rw [List.filter_map]; rfl⟩
 ·have EQ : Hid (zBa p (ms.map Lm.ls) = (zFf (nmV p) (noV 1 65535 (nmS p)) (ms.map Lm.ls), noS 1 65535 (nmS p))) := hid (by unfold zBa; rw [if_neg (by rw [List.isEmpty_iff]; intro e; have := HN.out; rw [e] at this; simp at this; omega)])
  have hn0 : (0 : Int) < (n' : Int) := by omega
  have cnd : (w1.alloc (.cells #[.string (str (nmV p))] 9)).drew.cell? ⟨w1.heap.size, 0, none⟩ = .some (.string (str (nmV p))) := cn
  have HD := hid (H2.out.keep (zAv _))
  go_wp2_with fail
  go_region_law (first | (go_simp; go_at_call 163; refine (zCk b B _ _ HD.out.base.st).mono ?_; rintro e w3 ⟨rfl, h3, k3⟩; have H3 := hid (HD.out.word h3 k3); have cn3 : w3.cell? ⟨w1.heap.size, 0, none⟩ = .some (.string (str (nmV p))) := H3.out.loc.cell 0; clear h3 k3) | (go_simp; go_at_call 169; refine (dropRu_any v ms (nmV p) (noV 1 65535 (nmS p)) _ _ H3.out.base HK.out).mono ?_; rintro e w4 ⟨v4, ms4, rfl, h4, e4⟩; have H4 := hid h4; have E4 := hid e4; clear h4 e4))
  all_goals
   go_wp2_with fail
   go_ret
   rw [EQ.out]
   exact ⟨v4, ms4, rfl, H4.out, E4.out⟩
end
theorem RA.word {g b B : Nat} {w0 w w' : World} {a : Al} {p p' : Ps} (h : RA g b B w0 a p w) (hs : WSt 131 b B p' w') (hg : w.grownBy w' (some b)) : RA g b B w0 a p' w' := by
 obtain ⟨v, h, hr⟩ := h
 exact ⟨v, h.word hs hg, hr⟩
theorem RA.bad {g b B : Nat} {w0 w : World} {a : Al} {p : Ps} (h : RA g b B w0 a p w) : RA g b B w0 a p.fail (w.setCell ⟨b, 1, none⟩ (.bool true)) := by
 obtain ⟨v, h, hr⟩ := h
 exact ⟨v, h.bad, hr⟩
theorem RA.st {g b B : Nat} {w0 w : World} {a : Al} {p : Ps} (h : RA g b B w0 a p w) : WSt 131 b B p w := by
 obtain ⟨v, h, hr⟩ := h
 exact h.st
theorem RS.nilRow {E T : TypeId} {g b B : Nat} {w0 w : World} {cs : Array Value} {pre post : List Orow} {p : Ps} {r : Orow} (h : RS E T g b B w0 cs (pre ++ r :: post) p w) {α : Type} (Te : TypeId) (n : Nat) (cells : α → Array Value) : RS E T g b B w0 cs (pre ++ rowE Te n cells (.slice none 0 0) [] :: post) p w :=
 RS.row (r' := rowE Te n cells (.slice none 0 0) []) h (World.grownBy.refl _ _) (OwnE.nil (cells := cells)) (.inr (.inl rfl))
theorem global_any (g b B : Nat) (w0 : World) (a : Al) (word : List UInt8) (p : Ps) (w : World) (h : RA g b B w0 a p w) (hk : AlOk 1000000 a) (he : EnvA B w0) (hs : p.short) (hb : a.block = 0) :
  Calls Tryz.prog 61 #[.pointer (some ⟨g, 0, none⟩), .string (str word), .pointer (some ⟨b, 0, none⟩)] w (APost g b B w0 (globS word a p).1 (globS word a p).2) := by
 have HA := hid h
 have HE := hid he
 have HS := hid hs
 have HK := hid hk
 have HB0 := hid hb
 clear h he hs hk hb
 have q0 : ((str word).toList == [104, 111, 115, 116, 110, 97, 109, 101]) = (word == [104, 111, 115, 116, 110, 97, 109, 101]) := by rw [zAb]
 have q1 : ((str word).toList == [97, 115]) = (word == [97, 115]) := by rw [zAb]
 have q2 : ((str word).toList == [105, 110, 116, 101, 114, 102, 97, 99, 101]) = (word == [105, 110, 116, 101, 114, 102, 97, 99, 101]) := by rw [zAb]
 have q3 : ((str word).toList == [112, 114, 101, 102, 105, 120, 45, 108, 105, 115, 116]) = (word == [112, 114, 101, 102, 105, 120, 45, 108, 105, 115, 116]) := by rw [zAb]
 have q4 : ((str word).toList == [114, 111, 117, 116, 101, 45, 109, 97, 112]) = (word == [114, 111, 117, 116, 101, 45, 109, 97, 112]) := by rw [zAb]
 have q5 : ((str word).toList == [97, 99, 99, 101, 115, 115, 45, 108, 105, 115, 116]) = (word == [97, 99, 99, 101, 115, 115, 45, 108, 105, 115, 116]) := by rw [zAb]
 have q6 : ((str word).toList == [110, 97, 116]) = (word == [110, 97, 116]) := by rw [zAb]
 have q7 : ((str word).toList == [114, 111, 117, 116, 101]) = (word == [114, 111, 117, 116, 101]) := by rw [zAb]
 have q8 : ((str word).toList == [114, 111, 117, 116, 101, 114]) = (word == [114, 111, 117, 116, 101, 114]) := by rw [zAb]
 cases e0 : (word == [104, 111, 115, 116, 110, 97, 109, 101]) with
 | true =>
  rw [e0] at q0
  have E : Hid (globS word a p = ({ a with name := nmV p }, nmS p)) := hid (by unfold globS; rw [e0]; rfl)
  obtain ⟨v, h, hl, hI, hC⟩ := HA.out
  have H := hid h
  have HL := hid hl
  have HI := hid hI
  have HC := hid hC
  clear h hl hI hC
  go_enter Tryz.func61, Tryz.ntmps61
  go_wp2_with fail
  refine (zBb b B p _ H.out.st).mono ?_
  rintro e w1 ⟨rfl, h1, k1⟩
  have H1 := hid (H.out.word h1 k1)
  clear h1 k1
  unfold strV
  obtain ⟨y0, c0⟩ := H1.out.some (j := 0) (show 0 < 31 from by decide)
  have fz := H1.out.frz
  go_wp2_with fail
  go_end0
  rw [E.out]
  exact ⟨rfl, v, (H1.out.put 0 _ rfl), HL.out, HI.out, HC.out⟩
 | false =>
  rw [e0] at q0
  cases e1 : (word == [97, 115]) with
  | true =>
   rw [e1] at q1
   have E : Hid (globS word a p = ({ a with asn := noV 1 65535 p }, noS 1 65535 p)) := hid (by unfold globS; rw [e0, e1]; rfl)
   obtain ⟨v, h, hl, hI, hC⟩ := HA.out
   have H := hid h
   have HL := hid hl
   have HI := hid hI
   have HC := hid hC
   clear h hl hI hC
   go_enter Tryz.func61, Tryz.ntmps61
   go_wp2_with fail
   refine (zAo b B p 1 65535 _ H.out.st).mono ?_
   rintro e w1 ⟨rfl, h1, k1⟩
   have H1 := hid (H.out.word h1 k1)
   clear h1 k1
   obtain ⟨y1, c1⟩ := H1.out.some (j := 1) (show 1 < 31 from by decide)
   have fz := H1.out.frz
   go_wp2_with fail
   go_end0
   rw [E.out]
   exact ⟨rfl, v, (H1.out.put 1 _ rfl), HL.out, HI.out, HC.out⟩
  | false =>
   rw [e1] at q1
   cases e2 : (word == [105, 110, 116, 101, 114, 102, 97, 99, 101]) with
   | true =>
    rw [e2] at q2
    have E : Hid (globS word a p = (zDt (nmV p) a, nmS p)) := hid (by unfold globS; rw [e0, e1, e2]; rfl)
    go_enter Tryz.func61, Tryz.ntmps61
    go_wp2_with fail
    refine (zBb b B p _ HA.out.st).mono ?_
    rintro e w1 ⟨rfl, h1, k1⟩
    have H1 := hid (HA.out.word h1 k1)
    clear h1 k1
    unfold strV
    go_wp2_with fail
    refine (zKe g b B w0 a (nmV p) (nmS p) _ H1.out HK.out).mono ?_
    rintro e wz ⟨rfl, hz⟩
    have HZ := hid hz
    clear hz
    go_wp2_with fail
    go_end0
    rw [E.out]
    exact ⟨rfl, HZ.out⟩
   | false =>
    rw [e2] at q2
    cases e3 : (word == [112, 114, 101, 102, 105, 120, 45, 108, 105, 115, 116]) with
    | true =>
     rw [e3] at q3
     have E : Hid (globS word a p = ((pRule a p).1, (pRule a p).2)) := hid (by unfold globS; rw [e0, e1, e2, e3]; rfl)
     go_enter Tryz.func61, Tryz.ntmps61
     go_wp2_with fail
     refine (prefixRule_any g b B w0 a p w HA.out HK.out HE.out HS.out HB0.out).mono ?_
     rintro e wz ⟨rfl, hz⟩
     have HZ := hid hz
     clear hz
     go_wp2_with fail
     go_end0
     rw [E.out]
     exact ⟨rfl, HZ.out⟩
    | false =>
     rw [e3] at q3
     cases e4 : (word == [114, 111, 117, 116, 101, 45, 109, 97, 112]) with
     | true =>
      rw [e4] at q4
      have E : Hid (globS word a p = ((zKd a p).1, (zKd a p).2)) := hid (by unfold globS; rw [e0, e1, e2, e3, e4]; rfl)
      go_enter Tryz.func61, Tryz.ntmps61
      go_wp2_with fail
      refine (openClause_any g b B w0 a p w HA.out HK.out HE.out HS.out HB0.out).mono ?_
      rintro e wz ⟨rfl, hz⟩
      have HZ := hid hz
      clear hz
      go_wp2_with fail
      go_end0
      rw [E.out]
      exact ⟨rfl, HZ.out⟩
     | false =>
      rw [e4] at q4
      cases e5 : (word == [97, 99, 99, 101, 115, 115, 45, 108, 105, 115, 116]) with
      | true =>
       rw [e5] at q5
       have E : Hid (globS word a p = ((zEp a p).1, (zEp a p).2)) := hid (by unfold globS; rw [e0, e1, e2, e3, e4, e5]; rfl)
       go_enter Tryz.func61, Tryz.ntmps61
       go_wp2_with fail
       refine (accessRule_any g b B w0 a p w HA.out HK.out HE.out HS.out HB0.out).mono ?_
       rintro e wz ⟨rfl, hz⟩
       have HZ := hid hz
       clear hz
       go_wp2_with fail
       go_end0
       rw [E.out]
       exact ⟨rfl, HZ.out⟩
      | false =>
       rw [e5] at q5
       cases e6 : (word == [110, 97, 116]) with
       | true =>
        rw [e6] at q6
        have E : Hid (globS word a p = ({ a with nat := a.nat ++ [(zDz p).1] }, (zDz p).2)) := hid (by unfold globS; rw [e0, e1, e2, e3, e4, e5, e6]; rfl)
        go_enter Tryz.func61, Tryz.ntmps61
        go_wp2_with fail
        refine (translation_any g b B w0 a p w HA.out (HK.out.up (by decide)) HE.out HS.out).mono ?_
        rintro e wz ⟨rfl, hz⟩
        have HZ := hid hz
        clear hz
        go_wp2_with fail
        go_end0
        rw [E.out]
        exact ⟨rfl, HZ.out⟩
       | false =>
        rw [e6] at q6
        cases e7 : (word == [114, 111, 117, 116, 101]) with
        | true =>
         rw [e7] at q7
         have E : Hid (globS word a p = ({ a with stat := replL (likeSr (zEx p).1) (zEx p).1 a.stat }, (zEx p).2)) := hid (by unfold globS; rw [e0, e1, e2, e3, e4, e5, e6, e7]; rfl)
         go_enter Tryz.func61, Tryz.ntmps61
         go_wp2_with fail
         refine (static_any g b B w0 a p w HA.out (HK.out.up (by decide)) HE.out HS.out).mono ?_
         rintro e wz ⟨rfl, hz⟩
         have HZ := hid hz
         clear hz
         go_wp2_with fail
         go_end0
         rw [E.out]
         exact ⟨rfl, HZ.out⟩
        | false =>
         rw [e7] at q7
         cases e8 : (word == [114, 111, 117, 116, 101, 114]) with
         | true =>
          rw [e8] at q8
          have E : Hid (globS word a p = ((zEh a p).1, (zEh a p).2)) := hid (by unfold globS; rw [e0, e1, e2, e3, e4, e5, e6, e7, e8]; rfl)
          go_enter Tryz.func61, Tryz.ntmps61
          go_wp2_with fail
          refine (zKs g b B w0 a p w HA.out (HK.out.up (by decide)) HE.out HS.out).mono ?_
          rintro e wz ⟨rfl, hz⟩
          have HZ := hid hz
          clear hz
          go_wp2_with fail
          go_end0
          rw [E.out]
          exact ⟨rfl, HZ.out⟩
         | false =>
          rw [e8] at q8
          have E : Hid (globS word a p = (a, p.fail)) := hid (by unfold globS; rw [e0, e1, e2, e3, e4, e5, e6, e7, e8]; rfl)
          have fb := HA.out.st.frz 1
          have cb := HA.out.st.bad1
          go_enter Tryz.func61, Tryz.ntmps61
          go_wp2_with fail
          go_end0
          rw [E.out]
          exact ⟨rfl, HA.out.bad⟩
theorem rremove_any (g b B : Nat) (w0 : World) (a : Al) (word : List UInt8) (p : Ps) (w : World) (h : RA g b B w0 a p w) (hk : AlOk 1000000 a) (he : EnvA B w0) (hs : p.short) (hb : a.block = 0) :
  Calls Tryz.prog 60 #[.pointer (some ⟨g, 0, none⟩), .string (str word), .pointer (some ⟨b, 0, none⟩)] w (APost g b B w0 (remS word a p).1 (remS word a p).2) := by
 have HA := hid h
 have HE := hid he
 have HS := hid hs
 have HK := hid hk
 have HB0 := hid hb
 clear h he hs hk hb
 have q0 : ((str word).toList == [97, 115]) = (word == [97, 115]) := by rw [zAb]
 have q1 : ((str word).toList == [105, 110, 116, 101, 114, 102, 97, 99, 101]) = (word == [105, 110, 116, 101, 114, 102, 97, 99, 101]) := by rw [zAb]
 have q2 : ((str word).toList == [112, 114, 101, 102, 105, 120, 45, 108, 105, 115, 116]) = (word == [112, 114, 101, 102, 105, 120, 45, 108, 105, 115, 116]) := by rw [zAb]
 have q3 : ((str word).toList == [114, 111, 117, 116, 101, 45, 109, 97, 112]) = (word == [114, 111, 117, 116, 101, 45, 109, 97, 112]) := by rw [zAb]
 have q4 : ((str word).toList == [97, 99, 99, 101, 115, 115, 45, 108, 105, 115, 116]) = (word == [97, 99, 99, 101, 115, 115, 45, 108, 105, 115, 116]) := by rw [zAb]
 have q5 : ((str word).toList == [110, 97, 116]) = (word == [110, 97, 116]) := by rw [zAb]
 have q6 : ((str word).toList == [114, 111, 117, 116, 101]) = (word == [114, 111, 117, 116, 101]) := by rw [zAb]
 have q7 : ((str word).toList == [114, 111, 117, 116, 101, 114]) = (word == [114, 111, 117, 116, 101, 114]) := by rw [zAb]
 have r0 : ((str (wV p)).toList == [108, 115]) = (wV p == [108, 115]) := by rw [zAb]
 have r1 : ((str (wV p)).toList == [100, 118]) = (wV p == [100, 118]) := by rw [zAb]
 have r2 : ((str (wV p)).toList == [112, 118]) = (wV p == [112, 118]) := by rw [zAb]
 cases e0 : (word == [97, 115]) with
 | true =>
  rw [e0] at q0
  have E : Hid (remS word a p = ({ a with asn := 0 }, p)) := hid (by unfold remS; rw [e0]; rfl)
  obtain ⟨v, h, hl, hI, hC⟩ := HA.out
  have H := hid h
  have HL := hid hl
  have HI := hid hI
  have HC := hid hC
  clear h hl hI hC
  go_enter Tryz.func60, Tryz.ntmps60
  obtain ⟨y1, c1⟩ := H.out.some (j := 1) (show 1 < 31 from by decide)
  have fz := H.out.frz
  go_wp2_with fail
  go_end0
  rw [E.out]
  exact ⟨rfl, v, (H.out.put 1 _ rfl), HL.out, HI.out, HC.out⟩
 | false =>
  rw [e0] at q0
  cases e1 : (word == [105, 110, 116, 101, 114, 102, 97, 99, 101]) with
  | true =>
   rw [e1] at q1
   have E : Hid (remS word a p = ({ a with ifs := dropL (fun x => x.name == nmV p) a.ifs }, nmS p)) := hid (by unfold remS; rw [e0, e1]; rfl)
   obtain ⟨v, h, hl, hI, hC⟩ := HA.out
   have H := hid h
   have HL := hid hl
   have HI := hid hI
   have HC := hid hC
   clear h hl hI hC
   go_enter Tryz.func60, Tryz.ntmps60
   go_wp2_with fail
   refine (zBb b B p _ H.out.st).mono ?_
   rintro e w1 ⟨rfl, h1, k1⟩
   have H1 := hid (H.out.word h1 k1)
   clear h1 k1
   unfold strV
   have K2 : RL 88 131 g b B w0 (AlC a v) (AlR a v) (nmS p) 9 w1.heap.size #[.string (str (nmV p))] (w1.alloc (.cells #[.string (str (nmV p))] 9)) := RL.start H1.out (HasC.new _ _ _) (World.grownBy.refl _ _)
   have H2 := hid K2
   clear K2
   have cr : (w1.alloc (.cells #[.string (str (nmV p))] 9)).cell? ⟨g, 2, none⟩ = .some v.ifs := H2.out.base.cell 2
   go_wp2_with fail
   refine (delIfN (pre := (AlR a v).take 0) (post := (AlR a v).drop 1) a.ifs (nmV p) H2.out).mono ?_
   rintro e wz ⟨v5, rfl, h5⟩
   obtain ⟨A5, n5, d5, rfl⟩ := h5.form
   have H5 := hid h5
   clear h5
   obtain ⟨y2, c2⟩ := H5.out.some (j := 2) (show 2 < 31 from by decide)
   have fz := H5.out.frz
   go_wp2_with fail
   go_end0
   rw [E.out]
   exact ⟨rfl, { v with ifs := .slice A5 n5 d5 }, H5.out.put 2 _ rfl, HL.out, (fun h => by have := HB0.out; rw [show a.block = 1 from h] at this; exact absurd this (by decide)), (fun h => by have := HB0.out; rw [show a.block = 2 from h] at this; exact absurd this (by decide))⟩
  | false =>
   rw [e1] at q1
   cases e2 : (word == [112, 114, 101, 102, 105, 120, 45, 108, 105, 115, 116]) with
   | true =>
    rw [e2] at q2
    have E : Hid (remS word a p = ({ a with lists := (zBa p a.lists).1 }, (zBa p a.lists).2)) := hid (by unfold remS; rw [e0, e1, e2]; rfl)
    obtain ⟨v, h, hl, -, -⟩ := HA.out
    obtain ⟨hl1, hl2, hl3⟩ := hl
    have HL1 := hid hl1
    have HL2 := hid hl2
    have HL3 := hid hl3
    have cr : w.cell? ⟨g, 25, none⟩ = .some v.lists := h.cell 25
    have e : AlR a v = ((AlR a v).take 11) ++ rowsP v ++ (rowsM v ++ rowsA v) := by simp [AlR]
    rw [e] at h
    have HP := hid (removePRule_any v.lists v.lm p w h (by rw [← HL1.out]; exact HK.out.lists))
    clear h hl1 hl2 hl3 e
    go_enter Tryz.func60, Tryz.ntmps60
    go_wp2_with fail
    refine HP.out.mono ?_
    rintro e w5 ⟨v5, ms5, rfl, h5, e5⟩
    obtain ⟨A5, n5, d5, rfl⟩ := RS.form (pre := ((AlR a v).take 11)) (post := ms5.flatMap (Lm.rows 3 96 5 PRule.C) ++ (rowsM v ++ rowsA v)) (v := v5) (by have := h5; unfold zAq at this; simpa using this)
    have H5 := hid h5
    have E5 := hid e5
    clear h5 e5 HP cr
    obtain ⟨y25, c25⟩ := H5.out.some (j := 25) (show 25 < 31 from by decide)
    have fz := H5.out.frz
    go_wp2_with fail
    go_end0
    rw [E.out, HL1.out]
    exact ⟨rfl, { v with lists := .slice A5 n5 d5, lm := ms5 }, zGg (a := a) (v := v) (H5.out.put 25 _ rfl), ⟨E5.out.symm, HL2.out, HL3.out⟩, (fun h => by have := HB0.out; rw [show a.block = 1 from h] at this; exact absurd this (by decide)), (fun h => by have := HB0.out; rw [show a.block = 2 from h] at this; exact absurd this (by decide))⟩
   | false =>
    rw [e2] at q2
    cases e3 : (word == [114, 111, 117, 116, 101, 45, 109, 97, 112]) with
    | true =>
     rw [e3] at q3
     have E : Hid (remS word a p = ({ a with maps := (zBa p a.maps).1 }, (zBa p a.maps).2)) := hid (by unfold remS; rw [e0, e1, e2, e3]; rfl)
     obtain ⟨v, h, hl, -, -⟩ := HA.out
     obtain ⟨hl1, hl2, hl3⟩ := hl
     have HL1 := hid hl1
     have HL2 := hid hl2
     have HL3 := hid hl3
     have cr : w.cell? ⟨g, 26, none⟩ = .some v.maps := h.cell 26
     have e : AlR a v = ((AlR a v).take 11 ++ rowsP v) ++ rowsM v ++ (rowsA v) := by simp [AlR]
     rw [e] at h
     have HP := hid (removeCl_any v.maps v.mm p w h (by rw [← HL2.out]; exact HK.out.maps))
     clear h hl1 hl2 hl3 e
     go_enter Tryz.func60, Tryz.ntmps60
     go_wp2_with fail
     refine HP.out.mono ?_
     rintro e w5 ⟨v5, ms5, rfl, h5, e5⟩
     obtain ⟨A5, n5, d5, rfl⟩ := RS.form (pre := ((AlR a v).take 11 ++ rowsP v)) (post := ms5.flatMap (Lm.rows 3 101 7 Cl.C) ++ (rowsA v)) (v := v5) (by have := h5; unfold zAq at this; simpa using this)
     have H5 := hid h5
     have E5 := hid e5
     clear h5 e5 HP cr
     obtain ⟨y26, c26⟩ := H5.out.some (j := 26) (show 26 < 31 from by decide)
     have fz := H5.out.frz
     go_wp2_with fail
     go_end0
     rw [E.out, HL2.out]
     exact ⟨rfl, { v with maps := .slice A5 n5 d5, mm := ms5 }, rows_maps (a := a) (v := v) (H5.out.put 26 _ rfl), ⟨HL1.out, E5.out.symm, HL3.out⟩, (fun h => by have := HB0.out; rw [show a.block = 1 from h] at this; exact absurd this (by decide)), (fun h => by have := HB0.out; rw [show a.block = 2 from h] at this; exact absurd this (by decide))⟩
    | false =>
     rw [e3] at q3
     cases e4 : (word == [97, 99, 99, 101, 115, 115, 45, 108, 105, 115, 116]) with
     | true =>
      rw [e4] at q4
      have E : Hid (remS word a p = ({ a with acls := (zBa p a.acls).1 }, (zBa p a.acls).2)) := hid (by unfold remS; rw [e0, e1, e2, e3, e4]; rfl)
      obtain ⟨v, h, hl, -, -⟩ := HA.out
      obtain ⟨hl1, hl2, hl3⟩ := hl
      have HL1 := hid hl1
      have HL2 := hid hl2
      have HL3 := hid hl3
      have cr : w.cell? ⟨g, 27, none⟩ = .some v.acls := h.cell 27
      have e : AlR a v = ((AlR a v).take 11 ++ rowsP v ++ rowsM v) ++ rowsA v ++ ([]) := by simp [AlR]
      rw [e] at h
      have HP := hid (removeRu_any v.acls v.am p w h (by rw [← HL3.out]; exact HK.out.acls))
      clear h hl1 hl2 hl3 e
      go_enter Tryz.func60, Tryz.ntmps60
      go_wp2_with fail
      refine HP.out.mono ?_
      rintro e w5 ⟨v5, ms5, rfl, h5, e5⟩
      obtain ⟨A5, n5, d5, rfl⟩ := RS.form (pre := ((AlR a v).take 11 ++ rowsP v ++ rowsM v)) (post := ms5.flatMap (Lm.rows 3 110 10 Ru.C) ++ ([])) (v := v5) (by have := h5; unfold zAq at this; simpa using this)
      have H5 := hid h5
      have E5 := hid e5
      clear h5 e5 HP cr
      obtain ⟨y27, c27⟩ := H5.out.some (j := 27) (show 27 < 31 from by decide)
      have fz := H5.out.frz
      go_wp2_with fail
      go_end0
      rw [E.out, HL3.out]
      exact ⟨rfl, { v with acls := .slice A5 n5 d5, am := ms5 }, zHk (a := a) (v := v) (H5.out.put 27 _ rfl), ⟨HL1.out, HL2.out, E5.out.symm⟩, (fun h => by have := HB0.out; rw [show a.block = 1 from h] at this; exact absurd this (by decide)), (fun h => by have := HB0.out; rw [show a.block = 2 from h] at this; exact absurd this (by decide))⟩
     | false =>
      rw [e4] at q4
      cases e5 : (word == [110, 97, 116]) with
      | true =>
       rw [e5] at q5
       have E : Hid (remS word a p = ({ a with nat := [] }, p)) := hid (by unfold remS; rw [e0, e1, e2, e3, e4, e5]; rfl)
       obtain ⟨v, h, hl, hI, hC⟩ := HA.out
       have H := hid h
       have HL := hid hl
       have HI := hid hI
       have HC := hid hC
       clear h hl hI hC
       go_enter Tryz.func60, Tryz.ntmps60
       obtain ⟨y6, c6⟩ := H.out.some (j := 6) (show 6 < 31 from by decide)
       have fz := H.out.frz
       go_wp2_with fail
       go_end0
       rw [E.out]
       have HN := RS.nilRow (pre := (AlR a v).take 1) (post := (AlR a v).drop 2) (H.out.put (cs' := AlC { a with nat := [] } { v with nat := .slice none 0 0 }) 6 (.slice none 0 0) rfl) 70 9 Tr.C
       exact ⟨rfl, { v with nat := .slice none 0 0 }, HN, HL.out, HI.out, HC.out⟩
      | false =>
       rw [e5] at q5
       cases e6 : (word == [114, 111, 117, 116, 101]) with
       | true =>
        rw [e6] at q6
        have E : Hid (remS word a p = ({ a with stat := dropL (fun x => decide (x.pa = (pxV p).1 ∧ x.pl = (pxV p).2)) a.stat }, pxS p)) := hid (by unfold remS; rw [e0, e1, e2, e3, e4, e5, e6]; rfl)
        obtain ⟨v, h, hl, hI, hC⟩ := HA.out
        have H := hid h
        have HL := hid hl
        have HI := hid hI
        have HC := hid hC
        clear h hl hI hC
        go_enter Tryz.func60, Tryz.ntmps60
        go_wp2_with fail
        refine (zBw b B p _ H.out.st (H.out.env HE.out) HS.out).mono ?_
        rintro e w1 ⟨rfl, h1, k1⟩
        have H1 := hid (H.out.word h1 k1)
        clear h1 k1
        go_wp2_with (refine zAe rfl _ _ _ rfl rfl (ds := Pf.C ⟨(pxV p).1, (pxV p).2⟩) rfl (HasC.new _ _ _) rfl Tryz.sizePf (Pf.one ⟨(pxV p).1, (pxV p).2⟩) ?_; intro w2 hx hg; have H2 := hid (RL.start H1.out hx hg); clear hx hg; have cr : w2.cell? ⟨g, 7, none⟩ = .some v.stat := H2.out.base.cell 7)
        refine (delSrP (pre := (AlR a v).take 2) (post := (AlR a v).drop 3) a.stat ⟨(pxV p).1, (pxV p).2⟩ H2.out).mono ?_
        rintro e wz ⟨v5, rfl, h5⟩
        obtain ⟨A5, n5, d5, rfl⟩ := h5.form
        have H5 := hid h5
        clear h5
        obtain ⟨y7, c7⟩ := H5.out.some (j := 7) (show 7 < 31 from by decide)
        have fz := H5.out.frz
        go_wp2_with fail
        go_end0
        rw [E.out]
        exact ⟨rfl, { v with stat := .slice A5 n5 d5 }, H5.out.put 7 _ rfl, HL.out, HI.out, HC.out⟩
       | false =>
        rw [e6] at q6
        cases e7 : (word == [114, 111, 117, 116, 101, 114]) with
        | true =>
         rw [e7] at q7
         cases d0 : (wV p == [108, 115]) with
         | true =>
          rw [d0] at r0
          have E : Hid (remS word a p = ({ a with lsOn := false, lsAdmin := 0, ranges := [], lsRed := [] }, wS p)) := hid (by unfold remS; rw [e0, e1, e2, e3, e4, e5, e6, e7, d0]; rfl)
          obtain ⟨v, h, hl, hI, hC⟩ := HA.out
          have H := hid h
          have HL := hid hl
          have HI := hid hI
          have HC := hid hC
          clear h hl hI hC
          go_enter Tryz.func60, Tryz.ntmps60
          go_wp2_with fail
          refine (zBc b B p _ H.out.st).mono ?_
          rintro e w1 ⟨rfl, h1, k1⟩
          have H1 := hid (H.out.word h1 k1)
          clear h1 k1
          unfold strV
          obtain ⟨y8, c8⟩ := H1.out.some (j := 8) (show 8 < 31 from by decide)
          obtain ⟨y9, c9⟩ := H1.out.some (j := 9) (show 9 < 31 from by decide)
          obtain ⟨y10, c10⟩ := H1.out.some (j := 10) (show 10 < 31 from by decide)
          obtain ⟨y11, c11⟩ := H1.out.some (j := 11) (show 11 < 31 from by decide)
          have fz := H1.out.frz
          go_wp2_with fail
          go_end0
          rw [E.out]
          have N0 := ((((H1.out.put (cs' := AlC { a with lsOn := false } v) 8 (.bool false) rfl).put (cs' := AlC { a with lsOn := false, lsAdmin := 0 } v) 9 (.int .i64 0) rfl).put (cs' := AlC { a with lsOn := false, lsAdmin := 0 } { v with ranges := .slice none 0 0 }) 10 (.slice none 0 0) rfl).put (cs' := AlC { a with lsOn := false, lsAdmin := 0 } { v with ranges := .slice none 0 0, lsRed := .slice none 0 0 }) 11 (.slice none 0 0) rfl)
          have N1 := RS.nilRow (pre := (AlR a v).take 3) (post := (AlR a v).drop 4) N0 113 3 AR.C
          have N2 := RS.nilRow (pre := (AlR { a with ranges := [] } { v with ranges := .slice none 0 0 }).take 4) (post := (AlR { a with ranges := [] } { v with ranges := .slice none 0 0 }).drop 5) N1 151 5 Rd.C
          exact ⟨rfl, { v with ranges := .slice none 0 0, lsRed := .slice none 0 0 }, N2, HL.out, HI.out, HC.out⟩
         | false =>
          rw [d0] at r0
          cases d1 : (wV p == [100, 118]) with
          | true =>
           rw [d1] at r1
           have E : Hid (remS word a p = ({ a with dvOn := false, dvAdmin := 0, dvIn := [], dvOut := [], dvRed := [] }, wS p)) := hid (by unfold remS; rw [e0, e1, e2, e3, e4, e5, e6, e7, d0, d1]; rfl)
           obtain ⟨v, h, hl, hI, hC⟩ := HA.out
           have H := hid h
           have HL := hid hl
           have HI := hid hI
           have HC := hid hC
           clear h hl hI hC
           go_enter Tryz.func60, Tryz.ntmps60
           go_wp2_with fail
           refine (zBc b B p _ H.out.st).mono ?_
           rintro e w1 ⟨rfl, h1, k1⟩
           have H1 := hid (H.out.word h1 k1)
           clear h1 k1
           unfold strV
           obtain ⟨y12, c12⟩ := H1.out.some (j := 12) (show 12 < 31 from by decide)
           obtain ⟨y13, c13⟩ := H1.out.some (j := 13) (show 13 < 31 from by decide)
           obtain ⟨y14, c14⟩ := H1.out.some (j := 14) (show 14 < 31 from by decide)
           obtain ⟨y15, c15⟩ := H1.out.some (j := 15) (show 15 < 31 from by decide)
           obtain ⟨y16, c16⟩ := H1.out.some (j := 16) (show 16 < 31 from by decide)
           have fz := H1.out.frz
           go_wp2_with fail
           go_end0
           rw [E.out]
           have N0 := (((((H1.out.put (cs' := AlC { a with dvOn := false } v) 12 (.bool false) rfl).put (cs' := AlC { a with dvOn := false, dvAdmin := 0 } v) 13 (.int .i64 0) rfl).put (cs' := AlC { a with dvOn := false, dvAdmin := 0, dvIn := [] } v) 14 (.string (str [])) rfl).put (cs' := AlC { a with dvOn := false, dvAdmin := 0, dvIn := [], dvOut := [] } v) 15 (.string (str [])) rfl).put (cs' := AlC { a with dvOn := false, dvAdmin := 0, dvIn := [], dvOut := [] } { v with dvRed := .slice none 0 0 }) 16 (.slice none 0 0) rfl)
           have N1 := RS.nilRow (pre := (AlR a v).take 5) (post := (AlR a v).drop 6) N0 151 5 Rd.C
           exact ⟨rfl, { v with dvRed := .slice none 0 0 }, N1, HL.out, HI.out, HC.out⟩
          | false =>
           rw [d1] at r1
           cases d2 : (wV p == [112, 118]) with
           | true =>
            rw [d2] at r2
            have E : Hid (remS word a p = ({ a with pvOn := false, ext := 0, int := 0, nb := [], net := [], ag := [], cd := [], pvRed := [] }, wS p)) := hid (by unfold remS; rw [e0, e1, e2, e3, e4, e5, e6, e7, d0, d1, d2]; rfl)
            obtain ⟨v, h, hl, hI, hC⟩ := HA.out
            have H := hid h
            have HL := hid hl
            have HI := hid hI
            have HC := hid hC
            clear h hl hI hC
            go_enter Tryz.func60, Tryz.ntmps60
            go_wp2_with fail
            refine (zBc b B p _ H.out.st).mono ?_
            rintro e w1 ⟨rfl, h1, k1⟩
            have H1 := hid (H.out.word h1 k1)
            clear h1 k1
            unfold strV
            obtain ⟨y17, c17⟩ := H1.out.some (j := 17) (show 17 < 31 from by decide)
            obtain ⟨y18, c18⟩ := H1.out.some (j := 18) (show 18 < 31 from by decide)
            obtain ⟨y19, c19⟩ := H1.out.some (j := 19) (show 19 < 31 from by decide)
            obtain ⟨y20, c20⟩ := H1.out.some (j := 20) (show 20 < 31 from by decide)
            obtain ⟨y21, c21⟩ := H1.out.some (j := 21) (show 21 < 31 from by decide)
            obtain ⟨y22, c22⟩ := H1.out.some (j := 22) (show 22 < 31 from by decide)
            obtain ⟨y23, c23⟩ := H1.out.some (j := 23) (show 23 < 31 from by decide)
            obtain ⟨y24, c24⟩ := H1.out.some (j := 24) (show 24 < 31 from by decide)
            have fz := H1.out.frz
            go_wp2_with fail
            go_end0
            rw [E.out]
            have N0 := ((((((((H1.out.put (cs' := AlC { a with pvOn := false } v) 17 (.bool false) rfl).put (cs' := AlC { a with pvOn := false, ext := 0 } v) 18 (.int .i64 0) rfl).put (cs' := AlC { a with pvOn := false, ext := 0, int := 0 } v) 19 (.int .i64 0) rfl).put (cs' := AlC { a with pvOn := false, ext := 0, int := 0 } { v with nb := .slice none 0 0 }) 20 (.slice none 0 0) rfl).put (cs' := AlC { a with pvOn := false, ext := 0, int := 0 } { v with nb := .slice none 0 0, net := .slice none 0 0 }) 21 (.slice none 0 0) rfl).put (cs' := AlC { a with pvOn := false, ext := 0, int := 0 } { v with nb := .slice none 0 0, net := .slice none 0 0, ag := .slice none 0 0 }) 22 (.slice none 0 0) rfl).put (cs' := AlC { a with pvOn := false, ext := 0, int := 0 } { v with nb := .slice none 0 0, net := .slice none 0 0, ag := .slice none 0 0, cd := .slice none 0 0 }) 23 (.slice none 0 0) rfl).put (cs' := AlC { a with pvOn := false, ext := 0, int := 0 } { v with nb := .slice none 0 0, net := .slice none 0 0, ag := .slice none 0 0, cd := .slice none 0 0, pvRed := .slice none 0 0 }) 24 (.slice none 0 0) rfl)
            have N1 := RS.nilRow (pre := (AlR a v).take 6) (post := (AlR a v).drop 7) N0 115 4 Nb.C
            have N2 := RS.nilRow (pre := (AlR { a with nb := [] } { v with nb := .slice none 0 0 }).take 7) (post := (AlR { a with nb := [] } { v with nb := .slice none 0 0 }).drop 8) N1 72 2 Pf.C
            have N3 := RS.nilRow (pre := (AlR { a with nb := [], net := [] } { v with nb := .slice none 0 0, net := .slice none 0 0 }).take 8) (post := (AlR { a with nb := [], net := [] } { v with nb := .slice none 0 0, net := .slice none 0 0 }).drop 9) N2 117 3 Ag.C
            have N4 := RS.nilRow (pre := (AlR { a with nb := [], net := [], ag := [] } { v with nb := .slice none 0 0, net := .slice none 0 0, ag := .slice none 0 0 }).take 9) (post := (AlR { a with nb := [], net := [], ag := [] } { v with nb := .slice none 0 0, net := .slice none 0 0, ag := .slice none 0 0 }).drop 10) N3 119 5 Cd.C
            have N5 := RS.nilRow (pre := (AlR { a with nb := [], net := [], ag := [], cd := [] } { v with nb := .slice none 0 0, net := .slice none 0 0, ag := .slice none 0 0, cd := .slice none 0 0 }).take 10) (post := (AlR { a with nb := [], net := [], ag := [], cd := [] } { v with nb := .slice none 0 0, net := .slice none 0 0, ag := .slice none 0 0, cd := .slice none 0 0 }).drop 11) N4 151 5 Rd.C
            exact ⟨rfl, { v with nb := .slice none 0 0, net := .slice none 0 0, ag := .slice none 0 0, cd := .slice none 0 0, pvRed := .slice none 0 0 }, N5, HL.out, HI.out, HC.out⟩
           | false =>
            rw [d2] at r2
            have E : Hid (remS word a p = (a, (wS p).fail)) := hid (by unfold remS; rw [e0, e1, e2, e3, e4, e5, e6, e7, d0, d1, d2]; rfl)
            obtain ⟨v, h, hl, hI, hC⟩ := HA.out
            have H := hid h
            have HL := hid hl
            have HI := hid hI
            have HC := hid hC
            clear h hl hI hC
            go_enter Tryz.func60, Tryz.ntmps60
            go_wp2_with fail
            refine (zBc b B p _ H.out.st).mono ?_
            rintro e w1 ⟨rfl, h1, k1⟩
            have H1 := hid (H.out.word h1 k1)
            clear h1 k1
            unfold strV
            have fb := H1.out.st.frz 1
            have cb := H1.out.st.bad1
            go_wp2_with fail
            go_end0
            rw [E.out]
            exact ⟨rfl, v, H1.out.bad, HL.out, HI.out, HC.out⟩
        | false =>
         rw [e7] at q7
         have E : Hid (remS word a p = (a, p.fail)) := hid (by unfold remS; rw [e0, e1, e2, e3, e4, e5, e6, e7]; rfl)
         have fb := HA.out.st.frz 1
         have cb := HA.out.st.bad1
         go_enter Tryz.func60, Tryz.ntmps60
         go_wp2_with fail
         go_end0
         rw [E.out]
         exact ⟨rfl, HA.out.bad⟩
end Go.Proofs.YtoceoaiokkbjeaaGreatDoor
