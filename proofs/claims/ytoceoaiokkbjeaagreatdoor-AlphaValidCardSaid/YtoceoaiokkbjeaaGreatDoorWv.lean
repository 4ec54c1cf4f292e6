/- slices.DeleteFunc and replace with the closures of alpha's commands, on one of the reader's slices. Conditions: as in Rl. -/
import Derived.Test.YtoceoaiokkbjeaaGreatDoorWs
import Derived.Test.YtoceoaiokkbjeaaGreatDoorWu
set_option maxRecDepth 8000
namespace Go.Proofs.YtoceoaiokkbjeaaGreatDoor
open Lib (hid)
open Go.RowKit Go.Shelf
theorem zDe {vs : List Value} {o : Nat} {cur : Array Value} : (zAt cur o vs).toList.take o = cur.toList.take o := by
 apply List.ext_getElem?
 intro k
 by_cases hk : k < o
 ·rw [List.getElem?_take_of_lt hk, List.getElem?_take_of_lt hk, Array.getElem?_toList, Array.getElem?_toList, zCs, if_neg (by omega)]
 ·rw [List.getElem?_eq_none (by rw [List.length_take]; omega), List.getElem?_eq_none (by rw [List.length_take]; omega)]
theorem run_store_there {P : Program} {w : World} {g o : Nat} {cs : Array Value} (h : w.there g o cs.size) (h1 : cs.all (·.oneCell') = true) : (storeCells ⟨g, o, none⟩ cs.toList).run P w = .ok () (w.setCells g o cs.toList) := by
 have := run_storeCells_cells (P := P) g o cs.toList 0 w (by intro j hj; exact (h j (by simpa using hj)).1) (by intro j hj; exact (h j (by simpa using hj)).2) (fun v hv => Array.all_eq_true_iff_forall_mem.1 h1 v (by simpa using hv))
 simpa using this
theorem OwnE.wiped {α : Type} {w : World} {B n g cap i : Nat} {T : TypeId} {cells : α → Array Value} {m : List α} (h : OwnE w B T n cells (.slice (some ⟨g, 0, none⟩) m.length cap) m) (hl : ∀ x, (cells x).toList.length = n) (hi : i ≤ m.length) (zs : List Value) :
  OwnE (w.setCells g (i * n) zs) B T n cells (.slice (some ⟨g, 0, none⟩) i cap) (m.take i) := by
 have hlen : (m.take i).length = i := by rw [List.length_take]; omega
 obtain ⟨h1, h2⟩ := h.take hl hi
 refine ⟨h1, ?_⟩
 rcases h2 with ⟨h3, -⟩ | ⟨g', cap', cur, e, a2, a3, a4, a5, a6, a7⟩
 ·cases h3
 ·injection e with e1 _ e3
  injection e1 with e1
  injection e1 with e1 _ _
  subst e1 e3
  refine .inr ⟨g, cap, zAt cur (i * n) zs, by rw [hlen], a2, zBq _ _ _ _ a3, a4, a5, by rw [zAj]; exact a6, ?_⟩
  rw [hlen] at a7 ⊢
  rw [zDe]
  exact a7
abbrev OwnE.like {α : Type} {w : World} {B n : Nat} {T : TypeId} {C : α → Array Value} {v : Value} {l : List α} (_ : OwnE w B T n C v l) (w' : World) (v' : Value) (l' : List α) : Prop := OwnE w' B T n C v' l'
theorem KS.clear {α : Type} {T S n b B : Nat} {C : α → Array Value} {w : World} {g cap i : Nat} {l : List α} (K : KS α T S n b C) (hl : ∀ x, (C x).toList.length = n) (O : OwnE w B T n C (.slice (some ⟨g, 0, none⟩) l.length cap) l) (hi : i < l.length) :
  ∃ zs : List Value, (∀ ty, (Builtin.clear_ #[S] ty #[.slice (some ⟨g, i * n, none⟩) (l.length - i) (cap - i)]).run Tryz.prog w = .ok (.tuple #[]) (w.setCells g (i * n) zs)) ∧ OwnE (w.setCells g (i * n) zs) B T n C (.slice (some ⟨g, 0, none⟩) i cap) (l.take i) := by
 obtain ⟨i0, z0, hi0, hz0, hk0, -, -⟩ := zBs K.info
 have hone : ∀ u ∈ z0.cells.toList, u.oneCell' = true := by
  have h1 := K.zero
  rw [hi0] at h1
  simp only [Option.map_some, hz0, Option.some.injEq] at h1
  exact fun u hu => List.all_eq_true.1 h1 u hu
 refine ⟨(Builtin.zeroCells z0.cells (l.length - i)).toList, fun ty => ?_, O.wiped hl (by omega) _⟩
 obtain ⟨g', cap', cur', e, -, hC, hc1, -, hsz, -⟩ := O.blk (by omega)
 injection e with e1 _ e3
 injection e1 with e1
 injection e1 with e1 _ _
 subst e1 e3
 refine zCn w S T ty z0 K.sl (fun w => by simp [zeroValue, typeInfo, hi0, hz0]) hone g (i * n) _ _ (by omega) (fun t ht => ?_) (fun t _ => hC.frz _)
 have h2 : (i + (l.length - i)) * n ≤ cap * n := Nat.mul_le_mul_right n (by omega)
 rw [Nat.add_mul] at h2
 rw [hk0] at ht
 have h3 : i * n + t < cur'.size := by rw [hsz]; omega
 rw [hC.cell, Array.getElem?_eq_getElem h3]
 rfl
theorem kIf : KS If 68 22 12 112 If.C := ⟨by kernel_rfl, by kernel_rfl, fun x => If.one x, by kernel_rfl, Tryz.underlying22, fun w => by kernel_rfl, fun w => by kernel_rfl, by kernel_rfl⟩
theorem kLPRule : KS (Lm PRule) 135 82 3 64 Lm.C := ⟨by kernel_rfl, by kernel_rfl, fun x => Lm.one x, by kernel_rfl, Tryz.underlying82, fun w => by kernel_rfl, fun w => by kernel_rfl, by kernel_rfl⟩
theorem kLCl : KS (Lm Cl) 137 83 3 64 Lm.C := ⟨by kernel_rfl, by kernel_rfl, fun x => Lm.one x, by kernel_rfl, Tryz.underlying83, fun w => by kernel_rfl, fun w => by kernel_rfl, by kernel_rfl⟩
theorem kLRu : KS (Lm Ru) 139 84 3 64 Lm.C := ⟨by kernel_rfl, by kernel_rfl, fun x => Lm.one x, by kernel_rfl, Tryz.underlying84, fun w => by kernel_rfl, fun w => by kernel_rfl, by kernel_rfl⟩
theorem Tryz.rowLPRule : (Tryz.prog.underlying 135).map TypeDesc.isRow = some true := kLPRule.row
theorem Tryz.sizeLPRule : (Tryz.prog.info? 135).map (·.size) = some 3 := kLPRule.size
theorem Tryz.rowLCl : (Tryz.prog.underlying 137).map TypeDesc.isRow = some true := kLCl.row
theorem Tryz.sizeLCl : (Tryz.prog.info? 137).map (·.size) = some 3 := kLCl.size
theorem Tryz.rowLRu : (Tryz.prog.underlying 139).map TypeDesc.isRow = some true := kLRu.row
theorem Tryz.sizeLRu : (Tryz.prog.info? 139).map (·.size) = some 3 := kLRu.size
theorem ixAIf_any : IxSt If 12 161 If.C := zHn (by decide) (fun _ => rfl) (ix_zero.2.2.2.2.2.2.2.1 Tryz.func161) (Tryz.slices_IndexFunc_f161 12 kIf.agg kIf.szof)
theorem zJl : IxSt (Lm PRule) 3 217 Lm.C := zHn (by decide) (fun _ => rfl) (ix_zero.2.2.2.2.2.2.2.2.1 Tryz.func217) (Tryz.slices_IndexFunc_f217 3 kLPRule.agg kLPRule.szof)
theorem ixALCl_any : IxSt (Lm Cl) 3 221 Lm.C := zHn (by decide) (fun _ => rfl) (ix_zero.2.2.2.2.2.2.2.2.2.1 Tryz.func221) (Tryz.slices_IndexFunc_f221 3 kLCl.agg kLCl.szof)
theorem ixALRu_any : IxSt (Lm Ru) 3 225 Lm.C := zHn (by decide) (fun _ => rfl) (ix_zero.2.2.2.2.2.2.2.2.2.2 Tryz.func225) (Tryz.slices_IndexFunc_f225 3 kLRu.agg kLRu.szof)
abbrev DelSt (α : Type) (T n F : Nat) (C : α → Array Value) : Prop := ∀ (B : Nat) (v : Value) (l : List α) (p : α → Bool) (g : Nat) (lb : Array Value), EG g → ∀ w : World, OwnE w B T n C v l → ∀ cb : List Nat, PredC Tryz.prog g lb (fun (x : α) => .agg (C x).toList.toArray) p cb w → (∀ c ∈ cb, v.ownBlock ≠ some c) →
 Calls Tryz.prog F #[v, .func (.func g) #[] lb] w (EPost B T n C v (dropL p l) w)
set_option maxHeartbeats 80000000 in
theorem del_all : (KS AR 113 28 3 24 AR.C → Tryz.prog.funcs[150]? = some Tryz.f150 → IxSt AR 3 199 AR.C → DelSt AR 113 3 150 AR.C) ∧
  (KS Pf 72 35 2 16 Pf.C → Tryz.prog.funcs[155]? = some Tryz.f155 → IxSt Pf 2 207 Pf.C → DelSt Pf 72 2 155 Pf.C) ∧
  (KS Ag 117 36 3 24 Ag.C → Tryz.prog.funcs[158]? = some Tryz.f158 → IxSt Ag 3 208 Ag.C → DelSt Ag 117 3 158 Ag.C) ∧
  (KS Nb 115 34 4 48 Nb.C → Tryz.prog.funcs[205]? = some Tryz.f205 → IxSt Nb 4 238 Nb.C → DelSt Nb 115 4 205 Nb.C) ∧
  (KS Cd 119 37 5 40 Cd.C → Tryz.prog.funcs[210]? = some Tryz.f210 → IxSt Cd 5 239 Cd.C → DelSt Cd 119 5 210 Cd.C) ∧
  (KS Rd 151 29 5 48 Rd.C → Tryz.prog.funcs[202]? = some Tryz.f202 → IxSt Rd 5 237 Rd.C → DelSt Rd 151 5 202 Rd.C) ∧
  (KS Sr 74 27 7 64 Sr.C → Tryz.prog.funcs[106]? = some Tryz.f106 → IxSt Sr 7 173 Sr.C → DelSt Sr 74 7 106 Sr.C) ∧
  (KS If 68 22 12 112 If.C → Tryz.prog.funcs[100]? = some Tryz.f100 → IxSt If 12 161 If.C → DelSt If 68 12 100 If.C) ∧
  (KS (Lm PRule) 135 82 3 64 Lm.C → Tryz.prog.funcs[164]? = some Tryz.f164 → IxSt (Lm PRule) 3 217 Lm.C → DelSt (Lm PRule) 135 3 164 Lm.C) ∧
  (KS (Lm Cl) 137 83 3 64 Lm.C → Tryz.prog.funcs[167]? = some Tryz.f167 → IxSt (Lm Cl) 3 221 Lm.C → DelSt (Lm Cl) 137 3 167 Lm.C) ∧
  (KS (Lm Ru) 139 84 3 64 Lm.C → Tryz.prog.funcs[170]? = some Tryz.f170 → IxSt (Lm Ru) 3 225 Lm.C → DelSt (Lm Ru) 139 3 170 Lm.C) := by
 refine ⟨?_, ?_, ?_, ?_, ?_, ?_, ?_, ?_, ?_, ?_, ?_⟩
 all_goals
  intro K hf X B v l p g lb eg w h cb hp hcb
  have HI := hid (X v l p g lb eg w h.slv hp.below)
  have H := hid h
  rcases idxF_cases p l 0 with ⟨e1, e2⟩ | ⟨k, hk, e1, e2, e3⟩
  ·rw [e1] at HI
   rw [e2]
   clear e1 e2 h hp
   refine calls_of_wp hf rfl ?_; clear hf; simp only [Tryz.ntmps150, Tryz.ntmps155, Tryz.ntmps158, Tryz.ntmps205, Tryz.ntmps210, Tryz.ntmps202, Tryz.ntmps106, Tryz.ntmps100, Tryz.ntmps164, Tryz.ntmps167, Tryz.ntmps170, List.size_toArray, List.length_cons, List.length_nil, Nat.reduceAdd, Nat.reduceSub, Array.replicate_succ, Array.replicate_zero, List.push_toArray, List.append_toArray, List.nil_append, List.cons_append]
   go_wp2_with fail
   refine HI.out.mono ?_
   rintro e w1 ⟨rfl, hb1⟩
   have h1 := hid (H.out.below hb1)
   have g1 := hid (zDk (Nat.le_refl _) hb1 v.ownBlock)
   go_wp2_with fail
   go_ret
   exact ⟨v, rfl, h1.out, .inl rfl, g1.out⟩
  rw [e1] at HI
  have HS := hid (DelInv.start hk e2 e3)
  obtain ⟨gg, cap, cur, rfl, hgB, -, hcap1, hcap2, -, -⟩ := h.blk (by omega)
  have hbig : l.length ≤ 9223372036854775807 := by have := h.slv.len; simp only [maxLen] at this; omega
  have HP := hid hp
  have HCB := hid hcb
  have hne1 : ((k : Int) == -1) = false := beq_eq_false_iff_ne.2 (by omega)
  simp only [Nat.zero_add] at HI
  clear e1 e2 e3 h hp hcb
  refine calls_of_wp hf rfl ?_; clear hf; simp only [Tryz.ntmps150, Tryz.ntmps155, Tryz.ntmps158, Tryz.ntmps205, Tryz.ntmps210, Tryz.ntmps202, Tryz.ntmps106, Tryz.ntmps100, Tryz.ntmps164, Tryz.ntmps167, Tryz.ntmps170, List.size_toArray, List.length_cons, List.length_nil, Nat.reduceAdd, Nat.reduceSub, Array.replicate_succ, Array.replicate_zero, List.push_toArray, List.append_toArray, List.nil_append, List.cons_append]
  go_wp2_with fail
  refine HI.out.mono ?_
  rintro e w1 ⟨rfl, hb1⟩
  have h1 := hid (H.out.below hb1)
  have g1 := hid (zDk (Nat.le_refl _) hb1 (some gg))
  clear hb1 HI
  go_wp2_with fail
  go_loopg [5, 6, 7] l.length (fun gh s5 s6 _ wr => ∃ (i j : Nat) (m : List _), s5 = .int .i64 i ∧ s6 = .int .i64 j ∧ j ≤ l.length ∧ l.length - j ≤ gh ∧ Hid (DelInv p l i j m) ∧ Hid (H.out.like wr (.slice (some ⟨gg, 0, none⟩) l.length cap) m) ∧ Hid (w.grownBy wr (some gg)))
  case atStart => exact ⟨k, k + 1, l, rfl, by go_num, by omega, by omega, HS, h1, g1⟩
  case round =>
   obtain ⟨i, j, m, rfl, rfl, hjl, hgh, I, O, G⟩ := hrel
   have O : Hid (OwnE _ _ _ _ _ _ _) := O
   have hij := I.out.lt
   have hml := I.out.len
   by_cases hlt : j < l.length
   ·have hltz : (j : Int) < (l.length : Int) := by omega
    have hjm : j < m.length := by omega
    have him : i < m.length := by omega
    have hmj : m[j] = l[j] := by
     have := I.out.at hlt
     rw [List.getElem?_eq_getElem hjm] at this
     exact Option.some.inj this
    obtain ⟨g', cap', e, -, -, hR, -⟩ := O.out.range (by decide) (fun _ => rfl) hjm
    injection e with e1 e2 e3
    clear e2
    injection e1 with e1
    injection e1 with e1 _ _
    subst e1 e3
    rw [hmj] at hR
    have HR := hid hR
    have hgl : gg < wr.heap.size := (O.out.lt rfl).1
    have hwl := G.out.size
    have KH : Hid (∀ o w4, (wr.alloc o).grownBy w4 (some wr.heap.size) → (∀ c ∈ cb, w4.heap[c]? = w.heap[c]?) ∧ O.out.like w4 (.slice (some ⟨gg, 0, none⟩) l.length cap) m ∧ w.grownBy w4 (some gg) ∧ w.heap.size ≤ w4.heap.size) := hid (by
     intro o w4 h4
     have hg' : wr.grownBy w4 (some wr.heap.size) := (World.grownBy_alloc wr o _).trans h4
     refine ⟨fun c hc => ?_, O.out.frame hg' (fun g hg => ?_), ⟨hg'.os.trans G.out.os, hg'.tape.trans G.out.tape, hg'.output.trans G.out.output, Nat.le_trans hwl hg'.size, fun k hk hr => (hg'.block k (by omega) (fun e => by injection e; omega)).trans (G.out.block k hk hr)⟩, Nat.le_trans hwl hg'.size⟩
     ·have h1 := HP.out.1 c hc
      exact (hg'.block c (by omega) (fun e => by injection e; omega)).trans (G.out.block c h1 (fun e => HCB.out c hc (by rw [e]; rfl)))
     ·cases hg
      intro e
      injection e with e
      have e2 : wr.heap.size = gg := e
      omega)
    have HX1 := hid (K.one l[j])
    have IO := I
    generalize hx : l[j] = x at HR HX1
    have HXX := hid hx
    have HML := hid hml
    have HIM := hid him
    clear hR hmj hx hml him hjm
    cases hq : p x with
    | false =>
     have IK := hid (I.out.kept hlt (by rw [HXX.out]; exact hq))
     rw [HXX.out] at IK
     go_wp2_with (first | (refine zAa rfl _ _ rfl (by first | rfl | (simp; done)) HR.out K.row K.size ?_) | (refine zAe rfl _ _ _ rfl rfl rfl (HasC.new _ _ _) rfl K.size HX1.out ?_; intro w4 hx4 hg4; obtain ⟨q1, q2, q3, q4⟩ := KH.out _ _ hg4; have Q1 := hid q1; have Q2 := hid q2; have Q3 := hid q3; have X4 := hid hx4; clear q1 q2 q3 hx4 hg4) | (refine zAa rfl _ _ rfl rfl X4.out.range K.row K.size ?_))
     refine (HP.out.2 w4 x Q1.out).mono ?_
     rintro e w5 ⟨rfl, hb5⟩
     have Q2 : Hid (OwnE _ _ _ _ _ _ _) := Q2
     have O5 := Q2.out.below hb5
     have X5 := hid (X4.out.keep hb5)
     have G5 := hid (zCu Q3.out (hb5.mono q4))
     obtain ⟨g2, cap2, cur2, e2, -, hpt, hput⟩ := O5.part (by decide) (fun _ => rfl) HIM.out
     injection e2 with e1 e4 e3
     clear e4
     injection e1 with e1
     injection e1 with e1 _ _
     subst e1 e3
     have HT5 := hid (K.there (fun _ => rfl) hpt)
     have HP5 := hid hpt
     have HU5 := hid hput
     clear hpt hput O5 hb5
     have hiz : (i : Int) < (l.length : Int) := by omega
     have hi0 : (0 : Int) ≤ (i : Int) := by omega
     rw [hq]
     go_wp2_with (refine zAa rfl _ _ rfl rfl X5.out.range K.row K.size ?_)
     rw [run_store_there (P := Tryz.prog) (cs := x.C) HT5.out HX1.out]
     go_wp2_with fail
     go_roundg (l.length - (j + 1))
     case measure => omega
     case rel => exact ⟨i + 1, j + 1, _, by go_num, by go_num, by omega, by omega, IK, hid (HU5.out _ x (K.put (fun _ => rfl) HP5.out x)), hid (G5.out.trans (zAi _ _ _ _))⟩
    | true =>
     have IG := hid (I.out.gone hlt (by rw [HXX.out]; exact hq))
     go_wp2_with (first | (refine zAa rfl _ _ rfl (by first | rfl | (simp; done)) HR.out K.row K.size ?_) | (refine zAe rfl _ _ _ rfl rfl rfl (HasC.new _ _ _) rfl K.size HX1.out ?_; intro w4 hx4 hg4; obtain ⟨q1, q2, q3, q4⟩ := KH.out _ _ hg4; have Q1 := hid q1; have Q2 := hid q2; have Q3 := hid q3; have X4 := hid hx4; clear q1 q2 q3 hx4 hg4) | (refine zAa rfl _ _ rfl rfl X4.out.range K.row K.size ?_))
     refine (HP.out.2 w4 x Q1.out).mono ?_
     rintro e w5 ⟨rfl, hb5⟩
     have O5 := hid (OwnE.below Q2.out hb5)
     have G5 := hid (zCu Q3.out (hb5.mono q4))
     clear hb5
     rw [hq]
     go_wp2_with fail
     go_roundg (l.length - (j + 1))
     case measure => omega
     case rel => exact ⟨i, j + 1, m, rfl, by go_num, by omega, by omega, IG, O5, G5⟩
   ·obtain rfl : j = l.length := by omega
    have hltz : ¬ (l.length : Int) < (l.length : Int) := by omega
    have O2 := O.out
    rw [← hml] at O2
    obtain ⟨zs, hcl, O3⟩ := K.clear (i := i) (fun _ => rfl) O2 (by omega)
    rw [hml] at hcl
    have O3 := hid O3
    have ED := hid (I.out.done (by omega))
    clear O2
    go_wp2_with fail
    go_ret
    exact ⟨_, rfl, by rw [← ED.out]; exact O3.out, .inl rfl, G.out.trans (zAi _ _ _ _)⟩
theorem deleteAR_any : DelSt AR 113 3 150 AR.C := del_all.1 kAR Tryz.func150 ixAAR_any
theorem deletePf_any : DelSt Pf 72 2 155 Pf.C := del_all.2.1 kPf Tryz.func155 ixAPf_any
theorem deleteAg_any : DelSt Ag 117 3 158 Ag.C := del_all.2.2.1 kAg Tryz.func158 ixAAg_any
theorem deleteNb_any : DelSt Nb 115 4 205 Nb.C := del_all.2.2.2.1 kNb Tryz.func205 ixANb_any
theorem deleteCd_any : DelSt Cd 119 5 210 Cd.C := del_all.2.2.2.2.1 kCd Tryz.func210 ixACd_any
theorem deleteRd_any : DelSt Rd 151 5 202 Rd.C := del_all.2.2.2.2.2.1 kRd Tryz.func202 ixARd_any
theorem deleteSr_any : DelSt Sr 74 7 106 Sr.C := del_all.2.2.2.2.2.2.1 kSr Tryz.func106 ixASr_any
theorem deleteIf_any : DelSt If 68 12 100 If.C := del_all.2.2.2.2.2.2.2.1 kIf Tryz.func100 ixAIf_any
theorem zKr : DelSt (Lm PRule) 135 3 164 Lm.C := del_all.2.2.2.2.2.2.2.2.1 kLPRule Tryz.func164 zJl
theorem deleteLCl_any : DelSt (Lm Cl) 137 3 167 Lm.C := del_all.2.2.2.2.2.2.2.2.2.1 kLCl Tryz.func167 ixALCl_any
theorem deleteLRu_any : DelSt (Lm Ru) 139 3 170 Lm.C := del_all.2.2.2.2.2.2.2.2.2.2 kLRu Tryz.func170 ixALRu_any
end Go.Proofs.YtoceoaiokkbjeaaGreatDoor
namespace Go.Proofs.YtoceoaiokkbjeaaGreatDoor
open Lib (hid)
open Go.RowKit
theorem HasC.sub {T : TypeId} {g : Nat} {cs : Array Value} {w : World} (h : HasC T g cs w) (f : Nat) (ds : Array Value) (hd : ∀ j, j < ds.size → cs[f + j]? = ds[j]?) : w.rangeAt g f ds.toList := by
 intro j v hv
 have hj : j < ds.size := by
  rcases Nat.lt_or_ge j ds.size with h | h
  ·exact h
  ·rw [List.getElem?_eq_none (by simpa using h)] at hv; cases hv
 rw [h.cell, hd j hj]
 simpa using hv
theorem predNet (x : Pf) (b : Nat) (w : World) (h : HasC 72 b x.C w) : PredC Tryz.prog 154 #[.pointer (some ⟨b, 0, none⟩)] (fun (y : Pf) => .agg (Pf.C y).toList.toArray) (fun y => decide (y.pa = x.pa ∧ y.pl = x.pl)) [b] w := by
 refine ⟨fun c hc => by obtain rfl := List.mem_singleton.1 hc; exact zBp h, fun W y hW => ?_⟩
 have hb : HasC 72 b x.C (W.alloc (.cells (Pf.C y) 72)) := HasC.keep ((hW b (List.mem_singleton.2 rfl)).trans h) ((Below.refl _ W).alloc (Nat.le_refl _) _)
 have hy : HasC 72 W.heap.size (Pf.C y) (W.alloc (.cells (Pf.C y) 72)) := HasC.new _ _ _
 have HB := hid ((Below.refl W.heap.size W).alloc (Nat.le_refl _) (.cells (Pf.C y) 72))
 have HRy := hid (hy.sub 0 #[.int .u32 (y.pa : Int), .int .i64 y.pl] (fun j hj => by obtain rfl | rfl : j = 0 ∨ j = 1 := (by have : j < 2 := hj; omega) <;> rfl))
 have HRx := hid (hb.sub 0 #[.int .u32 (x.pa : Int), .int .i64 x.pl] (fun j hj => by obtain rfl | rfl : j = 0 ∨ j = 1 := (by have : j < 2 := hj; omega) <;> rfl))
 clear hb hy hW h
 show Calls Tryz.prog 154 #[.agg (Pf.C y), .pointer (some ⟨b, 0, none⟩)] W _
 go_enter Tryz.func154, Tryz.ntmps154
 go_wp2_with (first | (refine zAa rfl _ _ rfl rfl HRy.out Tryz.rowPf Tryz.sizePf ?_) | (refine zAa rfl _ _ rfl rfl HRx.out Tryz.rowPf Tryz.sizePf ?_))
 all_goals (go_ret; exact ⟨zAd (by first | rfl | (simp; done) | (simp; omega) | (rw [Bool.eq_iff_iff]; simp; omega)), HB.out⟩)
theorem predAg (x : Ag) (b : Nat) (w : World) (h : HasC 117 b x.C w) : PredC Tryz.prog 157 #[.pointer (some ⟨b, 0, none⟩)] (fun (y : Ag) => .agg (Ag.C y).toList.toArray) (fun y => decide (y.pa = x.pa ∧ y.pl = x.pl)) [b] w := by
 refine ⟨fun c hc => by obtain rfl := List.mem_singleton.1 hc; exact zBp h, fun W y hW => ?_⟩
 have hb : HasC 117 b x.C (W.alloc (.cells (Ag.C y) 117)) := HasC.keep ((hW b (List.mem_singleton.2 rfl)).trans h) ((Below.refl _ W).alloc (Nat.le_refl _) _)
 have hy : HasC 117 W.heap.size (Ag.C y) (W.alloc (.cells (Ag.C y) 117)) := HasC.new _ _ _
 have HB := hid ((Below.refl W.heap.size W).alloc (Nat.le_refl _) (.cells (Ag.C y) 117))
 have HRy := hid (hy.sub 0 #[.int .u32 (y.pa : Int), .int .i64 y.pl] (fun j hj => by obtain rfl | rfl : j = 0 ∨ j = 1 := (by have : j < 2 := hj; omega) <;> rfl))
 have HRx := hid (hb.sub 0 #[.int .u32 (x.pa : Int), .int .i64 x.pl] (fun j hj => by obtain rfl | rfl : j = 0 ∨ j = 1 := (by have : j < 2 := hj; omega) <;> rfl))
 clear hb hy hW h
 show Calls Tryz.prog 157 #[.agg (Ag.C y), .pointer (some ⟨b, 0, none⟩)] W _
 go_enter Tryz.func157, Tryz.ntmps157
 go_wp2_with (first | (refine zAa rfl _ _ rfl rfl HRy.out Tryz.rowPf Tryz.sizePf ?_) | (refine zAa rfl _ _ rfl rfl HRx.out Tryz.rowPf Tryz.sizePf ?_))
 all_goals (go_ret; exact ⟨zAd (by first | rfl | (simp; done) | (simp; omega) | (rw [Bool.eq_iff_iff]; simp; omega)), HB.out⟩)
theorem predCd (x : Cd) (b : Nat) (w : World) (h : HasC 119 b x.C w) : PredC Tryz.prog 209 #[.pointer (some ⟨b, 0, none⟩)] (fun (y : Cd) => .agg (Cd.C y).toList.toArray) (fun y => decide (y.pa = x.pa ∧ y.pl = x.pl)) [b] w := by
 refine ⟨fun c hc => by obtain rfl := List.mem_singleton.1 hc; exact zBp h, fun W y hW => ?_⟩
 have hb : HasC 119 b x.C (W.alloc (.cells (Cd.C y) 119)) := HasC.keep ((hW b (List.mem_singleton.2 rfl)).trans h) ((Below.refl _ W).alloc (Nat.le_refl _) _)
 have hy : HasC 119 W.heap.size (Cd.C y) (W.alloc (.cells (Cd.C y) 119)) := HasC.new _ _ _
 have HB := hid ((Below.refl W.heap.size W).alloc (Nat.le_refl _) (.cells (Cd.C y) 119))
 have HRy := hid (hy.sub 0 #[.int .u32 (y.pa : Int), .int .i64 y.pl] (fun j hj => by obtain rfl | rfl : j = 0 ∨ j = 1 := (by have : j < 2 := hj; omega) <;> rfl))
 have HRx := hid (hb.sub 0 #[.int .u32 (x.pa : Int), .int .i64 x.pl] (fun j hj => by obtain rfl | rfl : j = 0 ∨ j = 1 := (by have : j < 2 := hj; omega) <;> rfl))
 clear hb hy hW h
 show Calls Tryz.prog 209 #[.agg (Cd.C y), .pointer (some ⟨b, 0, none⟩)] W _
 go_enter Tryz.func209, Tryz.ntmps209
 go_wp2_with (first | (refine zAa rfl _ _ rfl rfl HRy.out Tryz.rowPf Tryz.sizePf ?_) | (refine zAa rfl _ _ rfl rfl HRx.out Tryz.rowPf Tryz.sizePf ?_))
 all_goals (go_ret; exact ⟨zAd (by first | rfl | (simp; done) | (simp; omega) | (rw [Bool.eq_iff_iff]; simp; omega)), HB.out⟩)
theorem predSrP (x : Pf) (b : Nat) (w : World) (h : HasC 72 b x.C w) : PredC Tryz.prog 107 #[.pointer (some ⟨b, 0, none⟩)] (fun (y : Sr) => .agg (Sr.C y).toList.toArray) (fun y => decide (y.pa = x.pa ∧ y.pl = x.pl)) [b] w := by
 refine ⟨fun c hc => by obtain rfl := List.mem_singleton.1 hc; exact zBp h, fun W y hW => ?_⟩
 have hb : HasC 72 b x.C (W.alloc (.cells (Sr.C y) 74)) := HasC.keep ((hW b (List.mem_singleton.2 rfl)).trans h) ((Below.refl _ W).alloc (Nat.le_refl _) _)
 have hy : HasC 74 W.heap.size (Sr.C y) (W.alloc (.cells (Sr.C y) 74)) := HasC.new _ _ _
 have HB := hid ((Below.refl W.heap.size W).alloc (Nat.le_refl _) (.cells (Sr.C y) 74))
 have HRy := hid (hy.sub 0 #[.int .u32 (y.pa : Int), .int .i64 y.pl] (fun j hj => by obtain rfl | rfl : j = 0 ∨ j = 1 := (by have : j < 2 := hj; omega) <;> rfl))
 have HRx := hid (hb.sub 0 #[.int .u32 (x.pa : Int), .int .i64 x.pl] (fun j hj => by obtain rfl | rfl : j = 0 ∨ j = 1 := (by have : j < 2 := hj; omega) <;> rfl))
 clear hb hy hW h
 show Calls Tryz.prog 107 #[.agg (Sr.C y), .pointer (some ⟨b, 0, none⟩)] W _
 go_enter Tryz.func107, Tryz.ntmps107
 go_wp2_with (first | (refine zAa rfl _ _ rfl rfl HRy.out Tryz.rowPf Tryz.sizePf ?_) | (refine zAa rfl _ _ rfl rfl HRx.out Tryz.rowPf Tryz.sizePf ?_))
 all_goals (go_ret; exact ⟨zAd (by first | rfl | (simp; done) | (simp; omega) | (rw [Bool.eq_iff_iff]; simp; omega)), HB.out⟩)
theorem predAR (x : AR) (b : Nat) (w : World) (h : HasC 113 b x.C w) : PredC Tryz.prog 149 #[.pointer (some ⟨b, 0, none⟩)] (fun (y : AR) => .agg (AR.C y).toList.toArray) (fun y => decide (y.area = x.area ∧ y.pa = x.pa ∧ y.pl = x.pl)) [b] w := by
 refine ⟨fun c hc => by obtain rfl := List.mem_singleton.1 hc; exact zBp h, fun W y hW => ?_⟩
 have hb : HasC 113 b x.C (W.alloc (.cells (AR.C y) 113)) := HasC.keep ((hW b (List.mem_singleton.2 rfl)).trans h) ((Below.refl _ W).alloc (Nat.le_refl _) _)
 have hy : HasC 113 W.heap.size (AR.C y) (W.alloc (.cells (AR.C y) 113)) := HasC.new _ _ _
 have HB := hid ((Below.refl W.heap.size W).alloc (Nat.le_refl _) (.cells (AR.C y) 113))
 have HRy := hid (hy.sub 0 #[.int .i64 y.area, .int .u32 (y.pa : Int), .int .i64 y.pl] (fun j hj => by obtain rfl | rfl | rfl : j = 0 ∨ j = 1 ∨ j = 2 := (by have : j < 3 := hj; omega) <;> rfl))
 have HRx := hid (hb.sub 0 #[.int .i64 x.area, .int .u32 (x.pa : Int), .int .i64 x.pl] (fun j hj => by obtain rfl | rfl | rfl : j = 0 ∨ j = 1 ∨ j = 2 := (by have : j < 3 := hj; omega) <;> rfl))
 clear hb hy hW h
 show Calls Tryz.prog 149 #[.agg (AR.C y), .pointer (some ⟨b, 0, none⟩)] W _
 go_enter Tryz.func149, Tryz.ntmps149
 go_wp2_with (first | (refine zAa rfl _ _ rfl rfl HRy.out Tryz.rowAR Tryz.sizeAR ?_) | (refine zAa rfl _ _ rfl rfl HRx.out Tryz.rowAR Tryz.sizeAR ?_))
 all_goals (go_ret; exact ⟨zAd (by first | rfl | (simp; done) | (simp; omega) | (rw [Bool.eq_iff_iff]; simp; omega)), HB.out⟩)
theorem predNb (x : Nb) (b : Nat) (w : World) (h : HasC 115 b x.C w) : PredC Tryz.prog 204 #[.pointer (some ⟨b, 0, none⟩)] (fun (y : Nb) => .agg (Nb.C y).toList.toArray) (fun y => y.addr == x.addr) [b] w := by
 refine ⟨fun c hc => by obtain rfl := List.mem_singleton.1 hc; exact zBp h, fun W y hW => ?_⟩
 have hb : HasC 115 b x.C (W.alloc (.cells (Nb.C y) 115)) := HasC.keep ((hW b (List.mem_singleton.2 rfl)).trans h) ((Below.refl _ W).alloc (Nat.le_refl _) _)
 have hy : HasC 115 W.heap.size (Nb.C y) (W.alloc (.cells (Nb.C y) 115)) := HasC.new _ _ _
 have HB := hid ((Below.refl W.heap.size W).alloc (Nat.le_refl _) (.cells (Nb.C y) 115))
 have cy : (W.alloc _).cell? ⟨W.heap.size, 0, none⟩ = some (.int .u32 (y.addr : Int)) := hy.cell 0
 have cx : (W.alloc _).cell? ⟨b, 0, none⟩ = some (.int .u32 (x.addr : Int)) := hb.cell 0
 clear hb hy hW h
 show Calls Tryz.prog 204 #[.agg (Nb.C y), .pointer (some ⟨b, 0, none⟩)] W _
 go_enter Tryz.func204, Tryz.ntmps204
 go_wp2_with fail
 all_goals (go_ret; exact ⟨zAd (by first | rfl | (simp; done) | (simp; omega) | (rw [Bool.eq_iff_iff]; simp; omega)), HB.out⟩)
theorem predRd (x : Rd) (b : Nat) (w : World) (h : HasC 151 b x.C w) : PredC Tryz.prog 201 #[.pointer (some ⟨b, 0, none⟩)] (fun (y : Rd) => .agg (Rd.C y).toList.toArray) (fun y => y.frm == x.frm) [b] w := by
 refine ⟨fun c hc => by obtain rfl := List.mem_singleton.1 hc; exact zBp h, fun W y hW => ?_⟩
 have hb : HasC 151 b x.C (W.alloc (.cells (Rd.C y) 151)) := HasC.keep ((hW b (List.mem_singleton.2 rfl)).trans h) ((Below.refl _ W).alloc (Nat.le_refl _) _)
 have hy : HasC 151 W.heap.size (Rd.C y) (W.alloc (.cells (Rd.C y) 151)) := HasC.new _ _ _
 have HB := hid ((Below.refl W.heap.size W).alloc (Nat.le_refl _) (.cells (Rd.C y) 151))
 have cy : (W.alloc _).cell? ⟨W.heap.size, 0, none⟩ = some (.int .i64 y.frm) := hy.cell 0
 have cx : (W.alloc _).cell? ⟨b, 0, none⟩ = some (.int .i64 x.frm) := hb.cell 0
 clear hb hy hW h
 show Calls Tryz.prog 201 #[.agg (Rd.C y), .pointer (some ⟨b, 0, none⟩)] W _
 go_enter Tryz.func201, Tryz.ntmps201
 go_wp2_with fail
 all_goals (go_ret; exact ⟨zAd (by first | rfl | (simp; done) | (simp; omega) | (rw [Bool.eq_iff_iff]; simp; omega)), HB.out⟩)
theorem predIfN (name : List UInt8) (b : Nat) (w : World) (h : HasC 9 b #[strV name] w) : PredC Tryz.prog 101 #[.pointer (some ⟨b, 0, none⟩)] (fun (y : If) => .agg (If.C y).toList.toArray) (fun y => y.name == name) [b] w := by
 refine ⟨fun c hc => by obtain rfl := List.mem_singleton.1 hc; exact zBp h, fun W y hW => ?_⟩
 have hb : HasC 9 b #[strV name] (W.alloc (.cells (If.C y) 68)) := HasC.keep ((hW b (List.mem_singleton.2 rfl)).trans h) ((Below.refl _ W).alloc (Nat.le_refl _) _)
 have hy : HasC 68 W.heap.size (If.C y) (W.alloc (.cells (If.C y) 68)) := HasC.new _ _ _
 have HB := hid ((Below.refl W.heap.size W).alloc (Nat.le_refl _) (.cells (If.C y) 68))
 have cy : (W.alloc _).cell? ⟨W.heap.size, 0, none⟩ = some (.string (str y.name)) := hy.cell 0
 have cx : (W.alloc _).cell? ⟨b, 0, none⟩ = some (.string (str name)) := hb.cell 0
 clear hb hy hW h
 show Calls Tryz.prog 101 #[.agg (If.C y), .pointer (some ⟨b, 0, none⟩)] W _
 have E : Hid (((str y.name).toList == (str name).toList) = (y.name == name)) := hid (by rw [zAb, zAb])
 go_enter Tryz.func101, Tryz.ntmps101
 go_wp2_with fail
 all_goals (go_ret; exact ⟨zAd (by rw [← E.out]; first | done | (simp_all; done)), HB.out⟩)
theorem predLRPRule (name : List UInt8) (b : Nat) (w : World) (h : HasC 9 b #[strV name] w) : PredC Tryz.prog 165 #[.pointer (some ⟨b, 0, none⟩)] (fun (y : (Lm PRule)) => .agg (Lm.C y).toList.toArray) (fun y => y.name == name) [b] w := by
 refine ⟨fun c hc => by obtain rfl := List.mem_singleton.1 hc; exact zBp h, fun W y hW => ?_⟩
 have hb : HasC 9 b #[strV name] (W.alloc (.cells (Lm.C y) 135)) := HasC.keep ((hW b (List.mem_singleton.2 rfl)).trans h) ((Below.refl _ W).alloc (Nat.le_refl _) _)
 have hy : HasC 135 W.heap.size (Lm.C y) (W.alloc (.cells (Lm.C y) 135)) := HasC.new _ _ _
 have HB := hid ((Below.refl W.heap.size W).alloc (Nat.le_refl _) (.cells (Lm.C y) 135))
 have cy : (W.alloc _).cell? ⟨W.heap.size, 0, none⟩ = some (.string (str y.name)) := hy.cell 0
 have cx : (W.alloc _).cell? ⟨b, 0, none⟩ = some (.string (str name)) := hb.cell 0
 clear hb hy hW h
 show Calls Tryz.prog 165 #[.agg (Lm.C y), .pointer (some ⟨b, 0, none⟩)] W _
 have E : Hid (((str y.name).toList == (str name).toList) = (y.name == name)) := hid (by rw [zAb, zAb])
 go_enter Tryz.func165, Tryz.ntmps165
 go_wp2_with fail
 all_goals (go_ret; exact ⟨zAd (by rw [← E.out]; first | done | (simp_all; done)), HB.out⟩)
theorem predLFPRule (name : List UInt8) (b : Nat) (w : World) (h : HasC 9 b #[strV name] w) : PredC Tryz.prog 240 #[.pointer (some ⟨b, 0, none⟩)] (fun (y : (Lm PRule)) => .agg (Lm.C y).toList.toArray) (fun y => y.name == name) [b] w := by
 refine ⟨fun c hc => by obtain rfl := List.mem_singleton.1 hc; exact zBp h, fun W y hW => ?_⟩
 have hb : HasC 9 b #[strV name] (W.alloc (.cells (Lm.C y) 135)) := HasC.keep ((hW b (List.mem_singleton.2 rfl)).trans h) ((Below.refl _ W).alloc (Nat.le_refl _) _)
 have hy : HasC 135 W.heap.size (Lm.C y) (W.alloc (.cells (Lm.C y) 135)) := HasC.new _ _ _
 have HB := hid ((Below.refl W.heap.size W).alloc (Nat.le_refl _) (.cells (Lm.C y) 135))
 have cy : (W.alloc _).cell? ⟨W.heap.size, 0, none⟩ = some (.string (str y.name)) := hy.cell 0
 have cx : (W.alloc _).cell? ⟨b, 0, none⟩ = some (.string (str name)) := hb.cell 0
 clear hb hy hW h
 show Calls Tryz.prog 240 #[.agg (Lm.C y), .pointer (some ⟨b, 0, none⟩)] W _
 have E : Hid (((str y.name).toList == (str name).toList) = (y.name == name)) := hid (by rw [zAb, zAb])
 go_enter Tryz.func240, Tryz.ntmps240
 go_wp2_with fail
 all_goals (go_ret; exact ⟨zAd (by rw [← E.out]; first | done | (simp_all; done)), HB.out⟩)
theorem predLRCl (name : List UInt8) (b : Nat) (w : World) (h : HasC 9 b #[strV name] w) : PredC Tryz.prog 168 #[.pointer (some ⟨b, 0, none⟩)] (fun (y : (Lm Cl)) => .agg (Lm.C y).toList.toArray) (fun y => y.name == name) [b] w := by
 refine ⟨fun c hc => by obtain rfl := List.mem_singleton.1 hc; exact zBp h, fun W y hW => ?_⟩
 have hb : HasC 9 b #[strV name] (W.alloc (.cells (Lm.C y) 137)) := HasC.keep ((hW b (List.mem_singleton.2 rfl)).trans h) ((Below.refl _ W).alloc (Nat.le_refl _) _)
 have hy : HasC 137 W.heap.size (Lm.C y) (W.alloc (.cells (Lm.C y) 137)) := HasC.new _ _ _
 have HB := hid ((Below.refl W.heap.size W).alloc (Nat.le_refl _) (.cells (Lm.C y) 137))
 have cy : (W.alloc _).cell? ⟨W.heap.size, 0, none⟩ = some (.string (str y.name)) := hy.cell 0
 have cx : (W.alloc _).cell? ⟨b, 0, none⟩ = some (.string (str name)) := hb.cell 0
 clear hb hy hW h
 show Calls Tryz.prog 168 #[.agg (Lm.C y), .pointer (some ⟨b, 0, none⟩)] W _
 have E : Hid (((str y.name).toList == (str name).toList) = (y.name == name)) := hid (by rw [zAb, zAb])
 go_enter Tryz.func168, Tryz.ntmps168
 go_wp2_with fail
 all_goals (go_ret; exact ⟨zAd (by rw [← E.out]; first | done | (simp_all; done)), HB.out⟩)
theorem predLFCl (name : List UInt8) (b : Nat) (w : World) (h : HasC 9 b #[strV name] w) : PredC Tryz.prog 243 #[.pointer (some ⟨b, 0, none⟩)] (fun (y : (Lm Cl)) => .agg (Lm.C y).toList.toArray) (fun y => y.name == name) [b] w := by
 refine ⟨fun c hc => by obtain rfl := List.mem_singleton.1 hc; exact zBp h, fun W y hW => ?_⟩
 have hb : HasC 9 b #[strV name] (W.alloc (.cells (Lm.C y) 137)) := HasC.keep ((hW b (List.mem_singleton.2 rfl)).trans h) ((Below.refl _ W).alloc (Nat.le_refl _) _)
 have hy : HasC 137 W.heap.size (Lm.C y) (W.alloc (.cells (Lm.C y) 137)) := HasC.new _ _ _
 have HB := hid ((Below.refl W.heap.size W).alloc (Nat.le_refl _) (.cells (Lm.C y) 137))
 have cy : (W.alloc _).cell? ⟨W.heap.size, 0, none⟩ = some (.string (str y.name)) := hy.cell 0
 have cx : (W.alloc _).cell? ⟨b, 0, none⟩ = some (.string (str name)) := hb.cell 0
 clear hb hy hW h
 show Calls Tryz.prog 243 #[.agg (Lm.C y), .pointer (some ⟨b, 0, none⟩)] W _
 have E : Hid (((str y.name).toList == (str name).toList) = (y.name == name)) := hid (by rw [zAb, zAb])
 go_enter Tryz.func243, Tryz.ntmps243
 go_wp2_with fail
 all_goals (go_ret; exact ⟨zAd (by rw [← E.out]; first | done | (simp_all; done)), HB.out⟩)
theorem predLRRu (name : List UInt8) (b : Nat) (w : World) (h : HasC 9 b #[strV name] w) : PredC Tryz.prog 171 #[.pointer (some ⟨b, 0, none⟩)] (fun (y : (Lm Ru)) => .agg (Lm.C y).toList.toArray) (fun y => y.name == name) [b] w := by
 refine ⟨fun c hc => by obtain rfl := List.mem_singleton.1 hc; exact zBp h, fun W y hW => ?_⟩
 have hb : HasC 9 b #[strV name] (W.alloc (.cells (Lm.C y) 139)) := HasC.keep ((hW b (List.mem_singleton.2 rfl)).trans h) ((Below.refl _ W).alloc (Nat.le_refl _) _)
 have hy : HasC 139 W.heap.size (Lm.C y) (W.alloc (.cells (Lm.C y) 139)) := HasC.new _ _ _
 have HB := hid ((Below.refl W.heap.size W).alloc (Nat.le_refl _) (.cells (Lm.C y) 139))
 have cy : (W.alloc _).cell? ⟨W.heap.size, 0, none⟩ = some (.string (str y.name)) := hy.cell 0
 have cx : (W.alloc _).cell? ⟨b, 0, none⟩ = some (.string (str name)) := hb.cell 0
 clear hb hy hW h
 show Calls Tryz.prog 171 #[.agg (Lm.C y), .pointer (some ⟨b, 0, none⟩)] W _
 have E : Hid (((str y.name).toList == (str name).toList) = (y.name == name)) := hid (by rw [zAb, zAb])
 go_enter Tryz.func171, Tryz.ntmps171
 go_wp2_with fail
 all_goals (go_ret; exact ⟨zAd (by rw [← E.out]; first | done | (simp_all; done)), HB.out⟩)
theorem predLFRu (name : List UInt8) (b : Nat) (w : World) (h : HasC 9 b #[strV name] w) : PredC Tryz.prog 244 #[.pointer (some ⟨b, 0, none⟩)] (fun (y : (Lm Ru)) => .agg (Lm.C y).toList.toArray) (fun y => y.name == name) [b] w := by
 refine ⟨fun c hc => by obtain rfl := List.mem_singleton.1 hc; exact zBp h, fun W y hW => ?_⟩
 have hb : HasC 9 b #[strV name] (W.alloc (.cells (Lm.C y) 139)) := HasC.keep ((hW b (List.mem_singleton.2 rfl)).trans h) ((Below.refl _ W).alloc (Nat.le_refl _) _)
 have hy : HasC 139 W.heap.size (Lm.C y) (W.alloc (.cells (Lm.C y) 139)) := HasC.new _ _ _
 have HB := hid ((Below.refl W.heap.size W).alloc (Nat.le_refl _) (.cells (Lm.C y) 139))
 have cy : (W.alloc _).cell? ⟨W.heap.size, 0, none⟩ = some (.string (str y.name)) := hy.cell 0
 have cx : (W.alloc _).cell? ⟨b, 0, none⟩ = some (.string (str name)) := hb.cell 0
 clear hb hy hW h
 show Calls Tryz.prog 244 #[.agg (Lm.C y), .pointer (some ⟨b, 0, none⟩)] W _
 have E : Hid (((str y.name).toList == (str name).toList) = (y.name == name)) := hid (by rw [zAb, zAb])
 go_enter Tryz.func244, Tryz.ntmps244
 go_wp2_with fail
 all_goals (go_ret; exact ⟨zAd (by rw [← E.out]; first | done | (simp_all; done)), HB.out⟩)
theorem predSr (x : Sr) (b : Nat) (w : World) (h : HasC 74 b x.C w) : PredC Tryz.prog 183 #[.pointer (some ⟨b, 0, none⟩)] (fun (y : Sr) => .agg (Sr.C y).toList.toArray) (likeSr x) [b] w := by
 refine ⟨fun c hc => by obtain rfl := List.mem_singleton.1 hc; exact zBp h, fun W y hW => ?_⟩
 have hb : HasC 74 b x.C (W.alloc (.cells (Sr.C y) 74)) := HasC.keep ((hW b (List.mem_singleton.2 rfl)).trans h) ((Below.refl _ W).alloc (Nat.le_refl _) _)
 have hy : HasC 74 W.heap.size (Sr.C y) (W.alloc (.cells (Sr.C y) 74)) := HasC.new _ _ _
 have HB := hid ((Below.refl W.heap.size W).alloc (Nat.le_refl _) (.cells (Sr.C y) 74))
 have HRy := hid (hy.sub 0 #[.int .u32 (y.pa : Int), .int .i64 y.pl] (fun j hj => by obtain rfl | rfl : j = 0 ∨ j = 1 := (by have : j < 2 := hj; omega) <;> rfl))
 have HRx := hid (hb.sub 0 #[.int .u32 (x.pa : Int), .int .i64 x.pl] (fun j hj => by obtain rfl | rfl : j = 0 ∨ j = 1 := (by have : j < 2 := hj; omega) <;> rfl))
 have cy : (W.alloc _).cell? ⟨W.heap.size, 5, none⟩ = some (.int .i64 y.admin) := hy.cell 5
 have cx : (W.alloc _).cell? ⟨b, 5, none⟩ = some (.int .i64 x.admin) := hb.cell 5
 clear hb hy hW h
 show Calls Tryz.prog 183 #[.agg (Sr.C y), .pointer (some ⟨b, 0, none⟩)] W _
 go_enter Tryz.func183, Tryz.ntmps183
 go_wp2_with (first | (refine zAa rfl _ _ rfl rfl HRy.out Tryz.rowPf Tryz.sizePf ?_) | (refine zAa rfl _ _ rfl rfl HRx.out Tryz.rowPf Tryz.sizePf ?_))
 all_goals (go_ret; exact ⟨zAd (by unfold likeSr; first | rfl | (simp; done) | (simp; omega) | (rw [Bool.eq_iff_iff]; simp; omega)), HB.out⟩)
structure RL (E T : TypeId) (g b B : Nat) (w0 : World) (cs : Array Value) (rs : List Orow) (p : Ps) (El : TypeId) (xb : Nat) (cl : Array Value) (w : World) : Prop where
 base : RS E T g b B w0 cs rs p w
 loc : HasC El xb cl w
 xB : B ≤ xb
 xg : xb ≠ g
 xw : xb ≠ b
 xr : xb ∉ blks rs
section
variable {E T El : TypeId} {g b B xb : Nat} {w0 w w' : World} {cs cl cl' : Array Value} {rs pre X X' post : List Orow} {p p' : Ps}
theorem RS.other (h : RS E T g b B w0 cs rs p w) {k : Nat} (hg : w.grownBy w' (some k)) (hB : B ≤ k) (h1 : k ≠ g) (h2 : k ≠ b) (h3 : k ∉ blks rs) : RS E T g b B w0 cs rs p w' := by
 have hw := h.size
 have hbB := h.bB
 exact ⟨h.has.grown hg (fun e => h1 (Option.some.inj e).symm), h.own.frame hg (fun j hj => by cases hj; exact h3), h.st.other hg (fun j hj => by cases hj; exact ⟨hB, h2⟩), h.bel.trans (zAs hg hB (by omega)), h.bB, h.gB, h.gb, h.gr, h.br⟩
theorem RL.start (h : RS E T g b B w0 cs rs p w) {o : Obj} {w4 : World} (hx : HasC El w.heap.size cl w4) (hg : (w.alloc o).grownBy w4 (some w.heap.size)) : RL E T g b B w0 cs rs p El w.heap.size cl w4 := by
 have h1 := h.g_lt
 have h2 := h.b_lt
 have h3 := h.bB
 have h4 := h.size
 refine ⟨h.keep (zAn hg), hx, by omega, by omega, by omega, fun hm => ?_⟩
 have := (h.blt hm).1
 omega
theorem RL.word (h : RL E T g b B w0 cs rs p El xb cl w) (hs : WSt T b B p' w') (hg : w.grownBy w' (some b)) : RL E T g b B w0 cs rs p' El xb cl w' :=
 ⟨h.base.word hs hg, h.loc.grown hg (fun e => h.xw (by injection e)), h.xB, h.xg, h.xw, h.xr⟩
theorem RL.keep (h : RL E T g b B w0 cs rs p El xb cl w) (hb : Below w.heap.size w w') : RL E T g b B w0 cs rs p El xb cl w' :=
 ⟨h.base.keep hb, h.loc.keep hb, h.xB, h.xg, h.xw, h.xr⟩
theorem RL.put (h : RL E T g b B w0 cs rs p El xb cl w) (j : Nat) (v : Value) (e : cl.setIfInBounds j v = cl') : RL E T g b B w0 cs rs p El xb cl' (w.setCell ⟨xb, j, none⟩ v) := by
 refine ⟨h.base.other (zBj w xb j v) h.xB h.xg h.xw h.xr, ?_, h.xB, h.xg, h.xw, h.xr⟩
 subst e
 exact Lib.heap_setCell_same (i := j) h.loc v
theorem RL.bad (h : RL E T g b B w0 cs rs p El xb cl w) : RL E T g b B w0 cs rs p.fail El xb cl (w.setCell ⟨b, 1, none⟩ (.bool true)) := h.word h.base.st.failed.1 h.base.st.failed.2
theorem RL.lsome (h : RL E T g b B w0 cs rs p El xb cl w) {j : Nat} (hj : j < cl.size) : ∃ v, w.cell? ⟨xb, j, none⟩ = some v := ⟨cl[j], by rw [h.loc.cell, Array.getElem?_eq_getElem hj]⟩
theorem RL.lfrz (h : RL E T g b B w0 cs rs p El xb cl w) (j : Nat) : w.frozen? ⟨xb, j, none⟩ = false := h.loc.frz j
theorem RL.env (h : RL E T g b B w0 cs rs p El xb cl w) (he : EnvA B w0) : EnvA B w := h.base.env he
theorem RS.at {r : Orow} (h : RS E T g b B w0 cs (pre ++ r :: post) p w) : r.own w B := h.own.1 r (by simp)
theorem zCr {r : Orow} {k : Nat} (hk : k ∉ blks (pre ++ r :: post)) : r.v.ownBlock ≠ some k := fun e => hk (List.mem_filterMap.2 ⟨r, by simp, e⟩)
end
def zCz {α : Type} (E T : TypeId) (g b B : Nat) (w0 : World) (cs : Array Value) (pre post : List Orow) (Te : TypeId) (n : Nat) (cells : α → Array Value) (l' : List α) (p' : Ps) (e : Ending) (w' : World) : Prop :=
 ∃ v', e = .returned v' ∧ RS E T g b B w0 cs (pre ++ rowE Te n cells v' l' :: post) p' w'
theorem RS.epost {α : Type} {E T : TypeId} {g b B : Nat} {w0 w w' : World} {cs : Array Value} {pre post : List Orow} {p : Ps} {Te : TypeId} {n : Nat} {cells : α → Array Value} {v : Value} {l l' : List α} {e : Ending}
  (h : RS E T g b B w0 cs (pre ++ rowE Te n cells v l :: post) p w) (hp : EPost B Te n cells v l' w e w') : zCz E T g b B w0 cs pre post Te n cells l' p e w' := by
 obtain ⟨v', he, ho, hn, hg⟩ := hp
 exact ⟨v', he, RS.row (r' := rowE Te n cells v' l') h hg ho hn⟩
theorem short_px {p : Ps} (h : p.short) : (pxS p).short := zEs _ (zFg h)
theorem zKu {p : Ps} (h : p.short) : (adS p).short := zEs _ (zFg h)
theorem zCp {p : Ps} (h : p.short) : (nmS p).short := zEs _ (zFg h)
theorem zCb {p : Ps} (lo hi : Int) (h : p.short) : (noS lo hi p).short := zEs _ (zFg h)
theorem zEc {p : Ps} (h : p.short) : (wiS p).short := zEs _ (zFg h)
theorem short_po {p : Ps} (h : p.short) : (poS p).short := zEs _ (zFg h)
theorem zCc {p : Ps} (a c : List UInt8) (h : p.short) : (chS a c p).short := zEs _ (zFg h)
theorem zCt {p : Ps} (h : p.short) : (protS p).short := by
 unfold protS
 repeat' split
 all_goals first | exact zGm _ h | exact zCb _ _ h
section
variable {E T : TypeId} {g b B xb : Nat} {w0 w : World} {cs : Array Value} {pre post : List Orow} {p : Ps} {v : Value}
theorem delNet (l : List Pf) (x : Pf) (h : RL E T g b B w0 cs (pre ++ rowE 72 2 Pf.C v l :: post) p 72 xb x.C w) :
  Calls Tryz.prog 155 #[v, .func (.func 154) #[] #[.pointer (some ⟨xb, 0, none⟩)]] w (zCz E T g b B w0 cs pre post 72 2 Pf.C (dropL (fun y => decide (y.pa = x.pa ∧ y.pl = x.pl)) l) p) :=
 (deletePf_any B v l (fun y => decide (y.pa = x.pa ∧ y.pl = x.pl)) 154 _ (enters_of Tryz.func154 (by kernel_rfl) rfl) w h.base.at [xb] (predNet x xb w h.loc) (fun c hc => by obtain rfl := List.mem_singleton.1 hc; exact zCr h.xr)).mono fun _ _ hp => RS.epost h.base hp
theorem repNet (l : List Pf) (x : Pf) (h : RL E T g b B w0 cs (pre ++ rowE 72 2 Pf.C v l :: post) p 72 xb x.C w) (hl : l.length ≤ 1000000000) :
  Calls Tryz.prog 156 #[v, .agg x.C, .func (.func 154) #[] #[.pointer (some ⟨xb, 0, none⟩)]] w (zCz E T g b B w0 cs pre post 72 2 Pf.C (replL (fun y => decide (y.pa = x.pa ∧ y.pl = x.pl)) x l) p) :=
 (replacePf_any B v l x (fun y => decide (y.pa = x.pa ∧ y.pl = x.pl)) 154 _ (enters_of Tryz.func154 (by kernel_rfl) rfl) w h.base.at (by have := h.base.bB; have := h.base.size; omega) [xb] (predNet x xb w h.loc) hl).mono fun _ _ hp => RS.epost h.base hp
theorem delAg (l : List Ag) (x : Ag) (h : RL E T g b B w0 cs (pre ++ rowE 117 3 Ag.C v l :: post) p 117 xb x.C w) :
  Calls Tryz.prog 158 #[v, .func (.func 157) #[] #[.pointer (some ⟨xb, 0, none⟩)]] w (zCz E T g b B w0 cs pre post 117 3 Ag.C (dropL (fun y => decide (y.pa = x.pa ∧ y.pl = x.pl)) l) p) :=
 (deleteAg_any B v l (fun y => decide (y.pa = x.pa ∧ y.pl = x.pl)) 157 _ (enters_of Tryz.func157 (by kernel_rfl) rfl) w h.base.at [xb] (predAg x xb w h.loc) (fun c hc => by obtain rfl := List.mem_singleton.1 hc; exact zCr h.xr)).mono fun _ _ hp => RS.epost h.base hp
theorem repAg (l : List Ag) (x : Ag) (h : RL E T g b B w0 cs (pre ++ rowE 117 3 Ag.C v l :: post) p 117 xb x.C w) (hl : l.length ≤ 1000000000) :
  Calls Tryz.prog 159 #[v, .agg x.C, .func (.func 157) #[] #[.pointer (some ⟨xb, 0, none⟩)]] w (zCz E T g b B w0 cs pre post 117 3 Ag.C (replL (fun y => decide (y.pa = x.pa ∧ y.pl = x.pl)) x l) p) :=
 (replaceAg_any B v l x (fun y => decide (y.pa = x.pa ∧ y.pl = x.pl)) 157 _ (enters_of Tryz.func157 (by kernel_rfl) rfl) w h.base.at (by have := h.base.bB; have := h.base.size; omega) [xb] (predAg x xb w h.loc) hl).mono fun _ _ hp => RS.epost h.base hp
theorem delCd (l : List Cd) (x : Cd) (h : RL E T g b B w0 cs (pre ++ rowE 119 5 Cd.C v l :: post) p 119 xb x.C w) :
  Calls Tryz.prog 210 #[v, .func (.func 209) #[] #[.pointer (some ⟨xb, 0, none⟩)]] w (zCz E T g b B w0 cs pre post 119 5 Cd.C (dropL (fun y => decide (y.pa = x.pa ∧ y.pl = x.pl)) l) p) :=
 (deleteCd_any B v l (fun y => decide (y.pa = x.pa ∧ y.pl = x.pl)) 209 _ (enters_of Tryz.func209 (by kernel_rfl) rfl) w h.base.at [xb] (predCd x xb w h.loc) (fun c hc => by obtain rfl := List.mem_singleton.1 hc; exact zCr h.xr)).mono fun _ _ hp => RS.epost h.base hp
theorem repCd (l : List Cd) (x : Cd) (h : RL E T g b B w0 cs (pre ++ rowE 119 5 Cd.C v l :: post) p 119 xb x.C w) (hl : l.length ≤ 1000000000) :
  Calls Tryz.prog 211 #[v, .agg x.C, .func (.func 209) #[] #[.pointer (some ⟨xb, 0, none⟩)]] w (zCz E T g b B w0 cs pre post 119 5 Cd.C (replL (fun y => decide (y.pa = x.pa ∧ y.pl = x.pl)) x l) p) :=
 (replaceCd_any B v l x (fun y => decide (y.pa = x.pa ∧ y.pl = x.pl)) 209 _ (enters_of Tryz.func209 (by kernel_rfl) rfl) w h.base.at (by have := h.base.bB; have := h.base.size; omega) [xb] (predCd x xb w h.loc) hl).mono fun _ _ hp => RS.epost h.base hp
theorem delAR (l : List AR) (x : AR) (h : RL E T g b B w0 cs (pre ++ rowE 113 3 AR.C v l :: post) p 113 xb x.C w) :
  Calls Tryz.prog 150 #[v, .func (.func 149) #[] #[.pointer (some ⟨xb, 0, none⟩)]] w (zCz E T g b B w0 cs pre post 113 3 AR.C (dropL (fun y => decide (y.area = x.area ∧ y.pa = x.pa ∧ y.pl = x.pl)) l) p) :=
 (deleteAR_any B v l (fun y => decide (y.area = x.area ∧ y.pa = x.pa ∧ y.pl = x.pl)) 149 _ (enters_of Tryz.func149 (by kernel_rfl) rfl) w h.base.at [xb] (predAR x xb w h.loc) (fun c hc => by obtain rfl := List.mem_singleton.1 hc; exact zCr h.xr)).mono fun _ _ hp => RS.epost h.base hp
theorem repAR (l : List AR) (x : AR) (h : RL E T g b B w0 cs (pre ++ rowE 113 3 AR.C v l :: post) p 113 xb x.C w) (hl : l.length ≤ 1000000000) :
  Calls Tryz.prog 151 #[v, .agg x.C, .func (.func 149) #[] #[.pointer (some ⟨xb, 0, none⟩)]] w (zCz E T g b B w0 cs pre post 113 3 AR.C (replL (fun y => decide (y.area = x.area ∧ y.pa = x.pa ∧ y.pl = x.pl)) x l) p) :=
 (replaceAR_any B v l x (fun y => decide (y.area = x.area ∧ y.pa = x.pa ∧ y.pl = x.pl)) 149 _ (enters_of Tryz.func149 (by kernel_rfl) rfl) w h.base.at (by have := h.base.bB; have := h.base.size; omega) [xb] (predAR x xb w h.loc) hl).mono fun _ _ hp => RS.epost h.base hp
theorem delNb (l : List Nb) (x : Nb) (h : RL E T g b B w0 cs (pre ++ rowE 115 4 Nb.C v l :: post) p 115 xb x.C w) :
  Calls Tryz.prog 205 #[v, .func (.func 204) #[] #[.pointer (some ⟨xb, 0, none⟩)]] w (zCz E T g b B w0 cs pre post 115 4 Nb.C (dropL (fun y => y.addr == x.addr) l) p) :=
 (deleteNb_any B v l (fun y => y.addr == x.addr) 204 _ (enters_of Tryz.func204 (by kernel_rfl) rfl) w h.base.at [xb] (predNb x xb w h.loc) (fun c hc => by obtain rfl := List.mem_singleton.1 hc; exact zCr h.xr)).mono fun _ _ hp => RS.epost h.base hp
theorem repNb (l : List Nb) (x : Nb) (h : RL E T g b B w0 cs (pre ++ rowE 115 4 Nb.C v l :: post) p 115 xb x.C w) (hl : l.length ≤ 1000000000) :
  Calls Tryz.prog 206 #[v, .agg x.C, .func (.func 204) #[] #[.pointer (some ⟨xb, 0, none⟩)]] w (zCz E T g b B w0 cs pre post 115 4 Nb.C (replL (fun y => y.addr == x.addr) x l) p) :=
 (replaceNb_any B v l x (fun y => y.addr == x.addr) 204 _ (enters_of Tryz.func204 (by kernel_rfl) rfl) w h.base.at (by have := h.base.bB; have := h.base.size; omega) [xb] (predNb x xb w h.loc) hl).mono fun _ _ hp => RS.epost h.base hp
theorem delRd (l : List Rd) (x : Rd) (h : RL E T g b B w0 cs (pre ++ rowE 151 5 Rd.C v l :: post) p 151 xb x.C w) :
  Calls Tryz.prog 202 #[v, .func (.func 201) #[] #[.pointer (some ⟨xb, 0, none⟩)]] w (zCz E T g b B w0 cs pre post 151 5 Rd.C (dropL (fun y => y.frm == x.frm) l) p) :=
 (deleteRd_any B v l (fun y => y.frm == x.frm) 201 _ (enters_of Tryz.func201 (by kernel_rfl) rfl) w h.base.at [xb] (predRd x xb w h.loc) (fun c hc => by obtain rfl := List.mem_singleton.1 hc; exact zCr h.xr)).mono fun _ _ hp => RS.epost h.base hp
theorem repRd (l : List Rd) (x : Rd) (h : RL E T g b B w0 cs (pre ++ rowE 151 5 Rd.C v l :: post) p 151 xb x.C w) (hl : l.length ≤ 1000000000) :
  Calls Tryz.prog 203 #[v, .agg x.C, .func (.func 201) #[] #[.pointer (some ⟨xb, 0, none⟩)]] w (zCz E T g b B w0 cs pre post 151 5 Rd.C (replL (fun y => y.frm == x.frm) x l) p) :=
 (replaceRd_any B v l x (fun y => y.frm == x.frm) 201 _ (enters_of Tryz.func201 (by kernel_rfl) rfl) w h.base.at (by have := h.base.bB; have := h.base.size; omega) [xb] (predRd x xb w h.loc) hl).mono fun _ _ hp => RS.epost h.base hp
theorem repSr (l : List Sr) (x : Sr) (h : RL E T g b B w0 cs (pre ++ rowE 74 7 Sr.C v l :: post) p 74 xb x.C w) (hl : l.length ≤ 1000000000) :
  Calls Tryz.prog 182 #[v, .agg x.C, .func (.func 183) #[] #[.pointer (some ⟨xb, 0, none⟩)]] w (zCz E T g b B w0 cs pre post 74 7 Sr.C (replL (likeSr x) x l) p) :=
 (replaceSr_any B v l x (likeSr x) 183 _ (enters_of Tryz.func183 (by kernel_rfl) rfl) w h.base.at (by have := h.base.bB; have := h.base.size; omega) [xb] (predSr x xb w h.loc) hl).mono fun _ _ hp => RS.epost h.base hp
theorem delSrP (l : List Sr) (x : Pf) (h : RL E T g b B w0 cs (pre ++ rowE 74 7 Sr.C v l :: post) p 72 xb x.C w) :
  Calls Tryz.prog 106 #[v, .func (.func 107) #[] #[.pointer (some ⟨xb, 0, none⟩)]] w (zCz E T g b B w0 cs pre post 74 7 Sr.C (dropL (fun y => decide (y.pa = x.pa ∧ y.pl = x.pl)) l) p) :=
 (deleteSr_any B v l (fun y => decide (y.pa = x.pa ∧ y.pl = x.pl)) 107 _ (enters_of Tryz.func107 (by kernel_rfl) rfl) w h.base.at [xb] (predSrP x xb w h.loc) (fun c hc => by obtain rfl := List.mem_singleton.1 hc; exact zCr h.xr)).mono fun _ _ hp => RS.epost h.base hp
theorem delIfN (l : List If) (name : List UInt8) (h : RL E T g b B w0 cs (pre ++ rowE 68 12 If.C v l :: post) p 9 xb #[strV name] w) :
  Calls Tryz.prog 100 #[v, .func (.func 101) #[] #[.pointer (some ⟨xb, 0, none⟩)]] w (zCz E T g b B w0 cs pre post 68 12 If.C (dropL (fun y => y.name == name) l) p) :=
 (deleteIf_any B v l (fun y => y.name == name) 101 _ (enters_of Tryz.func101 (by kernel_rfl) rfl) w h.base.at [xb] (predIfN name xb w h.loc) (fun c hc => by obtain rfl := List.mem_singleton.1 hc; exact zCr h.xr)).mono fun _ _ hp => RS.epost h.base hp
end
end Go.Proofs.YtoceoaiokkbjeaaGreatDoor
