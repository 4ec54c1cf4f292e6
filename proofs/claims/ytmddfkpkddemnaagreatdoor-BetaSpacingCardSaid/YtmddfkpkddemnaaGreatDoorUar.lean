/- The contracts of all of beta's forms. Conditions: as FormC says. -/
import Derived.Test.YtmddfkpkddemnaaGreatDoorUao
import Derived.Test.YtmddfkpkddemnaaGreatDoorUab
import Derived.Test.YtmddfkpkddemnaaGreatDoorUaq
import Derived.Deep.DeepCutAuto
import Derived.Deep.CutBlock
import Derived.Test.YtmddfkpkddemnaaGreatDoorUap
namespace Go.Proofs.YtmddfkpkddemnaaGreatDoor
open Go.RowKit
set_option maxRecDepth 8000 in
set_option maxHeartbeats 8000000 in
theorem path_form : FormC .path := by
  intro g B b k w0 w r K kb p fv h hf he hs hr hk
  obtain ⟨q, rfl, e4⟩ := hf
  refine ⟨140, #[], #[.pointer (some ⟨q, 0, none⟩)], rfl, enters_of Tryz.func140 (by kernel_rfl) rfl, ?_⟩
  show Calls Tryz.prog 140 #[.pointer (some ⟨b, 0, none⟩), .pointer (some ⟨q, 0, none⟩)] w _
  have HQ := Lib.hid e4
  have HKG : q ≠ g := (h.keep _ e4).2.1
  clear e4
  have H := Lib.hid h
  have HE := Lib.hid he
  have HS := Lib.hid hs
  have HR := Lib.hid hr
  have HK := Lib.hid hk
  clear h he hs hr hk
  have q0 : ((str (wV p)).toList == [112, 114, 101, 102, 101, 114, 101, 110, 99, 101]) = (wV p == [112, 114, 101, 102, 101, 114, 101, 110, 99, 101]) := by rw [toList_str]
  have q1 : ((str (wV p)).toList == [110, 101, 105, 103, 104, 98, 111, 114]) = (wV p == [110, 101, 105, 103, 104, 98, 111, 114]) := by rw [toList_str]
  have q2 : ((str (wV p)).toList == [110, 101, 116, 119, 111, 114, 107]) = (wV p == [110, 101, 116, 119, 111, 114, 107]) := by rw [toList_str]
  have q3 : ((str (wV p)).toList == [97, 103, 103, 114, 101, 103, 97, 116, 101]) = (wV p == [97, 103, 103, 114, 101, 103, 97, 116, 101]) := by rw [toList_str]
  have q4 : ((str (wV p)).toList == [111, 114, 105, 103, 105, 110, 97, 116, 101]) = (wV p == [111, 114, 105, 103, 105, 110, 97, 116, 101]) := by rw [toList_str]
  have q5 : ((str (wV p)).toList == [105, 109, 112, 111, 114, 116]) = (wV p == [105, 109, 112, 111, 114, 116]) := by rw [toList_str]
  go_enter Tryz.func140, Tryz.ntmps140
  go_wp2_with fail
  refine (wnext_any b B p _ H.out.st).mono ?_
  rintro e w1 ⟨rfl, h1, k1⟩
  have H1 := Lib.hid (H.out.word h1 k1)
  clear h1 k1
  unfold strV
  cases e0 : (wV p == [112, 114, 101, 102, 101, 114, 101, 110, 99, 101]) with
  | true =>
    rw [e0] at q0
    cases c : chB [101, 120, 116, 101, 114, 110, 97, 108] [105, 110, 116, 101, 114, 110, 97, 108] (wS p) with
    | true =>
      have CC := Lib.hid c
      have E : Hid (pathF kb r.plain p = (nmK (wV p) [101, 120, 116, 101, 114, 110, 97, 108], none, ({ r with ext := noV 1 255 (chS [101, 120, 116, 101, 114, 110, 97, 108] [105, 110, 116, 101, 114, 110, 97, 108] (wS p)) } : Rt).plain, noS 1 255 (chS [101, 120, 116, 101, 114, 110, 97, 108] [105, 110, 116, 101, 114, 110, 97, 108] (wS p)))) := Lib.hid (by unfold pathF; rw [e0, c]; rfl)
      clear c
      have b1 : ¬ (9223372036854775807 < (str (wV p)).size + 9) := by have := wV_short HS.out; omega
      have ret : Ending.returned (.tuple #[.string (str (wV p) ++ ⟨#[32, 101, 120, 116, 101, 114, 110, 97, 108]⟩), .nilFunc]) = .returned (.tuple #[strV (nmK (wV p) [101, 120, 116, 101, 114, 110, 97, 108]), .nilFunc]) := by rw [show str (wV p) ++ (⟨#[32, 101, 120, 116, 101, 114, 110, 97, 108]⟩ : ByteArray) = str (nmK (wV p) [101, 120, 116, 101, 114, 110, 97, 108]) from by apply ByteArray.ext; simp [str, nmK, ByteArray.data_append]]; rfl
      go_wp2_with fail
      refine (wchoice_any b B (wS p) [101, 120, 116, 101, 114, 110, 97, 108] [105, 110, 116, 101, 114, 110, 97, 108] _ H1.out.st).mono ?_
      rintro e w2 ⟨rfl, h2, k2⟩
      have H2 := Lib.hid (H1.out.word h2 k2)
      clear h2 k2
      rw [CC.out]
      have ck := H2.out.kc HQ.out
      go_wp2_with fail
      have D3 := Lib.hid H2.out.drew
      go_region_held3 (fun w' => w'.cell? ⟨q, 0, none⟩ = some (.pointer (some ⟨g, 17, none⟩))) (first | assumption | with_reducible exact D3.out.kc HQ.out | with_reducible exact H3.out.kc HQ.out | ((repeat with_reducible refine set_other HKG ?_); first | assumption | with_reducible exact H3.out.kc HQ.out)) (((with_reducible refine (wnumber_any b B (chS [101, 120, 116, 101, 114, 110, 97, 108] [105, 110, 116, 101, 114, 110, 97, 108] (wS p)) 1 255 _ D3.out.st).mono ?_); rintro e w3 ⟨rfl, h3, k3⟩; have H3 := Lib.hid (D3.out.word h3 k3); clear h3 k3; obtain ⟨y18, c18⟩ := H3.out.toBR.cellx 18 (by decide); have fz := H3.out.toBR.frz))
      go_wp2_with fail
      go_ret2
      exact ⟨_, none, { r with ext := noV 1 255 (chS [101, 120, 116, 101, 114, 110, 97, 108] [105, 110, 116, 101, 114, 110, 97, 108] (wS p)) }, _, [], .nilFunc, E.out, ret, (H3.out.put 18 _ rfl rfl), fun _ => ⟨rfl, rfl, rfl, rfl, rfl, rfl⟩, fun _ q => q, rfl, fun _ h => by cases h⟩
    | false =>
      have CC := Lib.hid c
      have E : Hid (pathF kb r.plain p = (nmK (wV p) [105, 110, 116, 101, 114, 110, 97, 108], none, ({ r with int := noV 1 255 (chS [101, 120, 116, 101, 114, 110, 97, 108] [105, 110, 116, 101, 114, 110, 97, 108] (wS p)) } : Rt).plain, noS 1 255 (chS [101, 120, 116, 101, 114, 110, 97, 108] [105, 110, 116, 101, 114, 110, 97, 108] (wS p)))) := Lib.hid (by unfold pathF; rw [e0, c]; rfl)
      clear c
      have b1 : ¬ (9223372036854775807 < (str (wV p)).size + 9) := by have := wV_short HS.out; omega
      have ret : Ending.returned (.tuple #[.string (str (wV p) ++ ⟨#[32, 105, 110, 116, 101, 114, 110, 97, 108]⟩), .nilFunc]) = .returned (.tuple #[strV (nmK (wV p) [105, 110, 116, 101, 114, 110, 97, 108]), .nilFunc]) := by rw [show str (wV p) ++ (⟨#[32, 105, 110, 116, 101, 114, 110, 97, 108]⟩ : ByteArray) = str (nmK (wV p) [105, 110, 116, 101, 114, 110, 97, 108]) from by apply ByteArray.ext; simp [str, nmK, ByteArray.data_append]]; rfl
      go_wp2_with fail
      refine (wchoice_any b B (wS p) [101, 120, 116, 101, 114, 110, 97, 108] [105, 110, 116, 101, 114, 110, 97, 108] _ H1.out.st).mono ?_
      rintro e w2 ⟨rfl, h2, k2⟩
      have H2 := Lib.hid (H1.out.word h2 k2)
      clear h2 k2
      rw [CC.out]
      have ck := H2.out.kc HQ.out
      go_wp2_with fail
      have D3 := Lib.hid H2.out.drew
      go_region_held3 (fun w' => w'.cell? ⟨q, 0, none⟩ = some (.pointer (some ⟨g, 17, none⟩))) (first | assumption | with_reducible exact D3.out.kc HQ.out | with_reducible exact H3.out.kc HQ.out | ((repeat with_reducible refine set_other HKG ?_); first | assumption | with_reducible exact H3.out.kc HQ.out)) (((with_reducible refine (wnumber_any b B (chS [101, 120, 116, 101, 114, 110, 97, 108] [105, 110, 116, 101, 114, 110, 97, 108] (wS p)) 1 255 _ D3.out.st).mono ?_); rintro e w3 ⟨rfl, h3, k3⟩; have H3 := Lib.hid (D3.out.word h3 k3); clear h3 k3; obtain ⟨y19, c19⟩ := H3.out.toBR.cellx 19 (by decide); have fz := H3.out.toBR.frz))
      go_wp2_with fail
      go_ret2
      exact ⟨_, none, { r with int := noV 1 255 (chS [101, 120, 116, 101, 114, 110, 97, 108] [105, 110, 116, 101, 114, 110, 97, 108] (wS p)) }, _, [], .nilFunc, E.out, ret, (H3.out.put 19 _ rfl rfl), fun _ => ⟨rfl, rfl, rfl, rfl, rfl, rfl⟩, fun _ q => q, rfl, fun _ h => by cases h⟩
  | false =>
    rw [e0] at q0
    cases e1 : (wV p == [110, 101, 105, 103, 104, 98, 111, 114]) with
    | true =>
      rw [e1] at q1
      have E : Hid (∀ v : Value, pathF kb r.plain p = (nmK (wV p) (fmtA (adV (wS p))), some .neighbor, ({ r with nbV := v, nb := r.nb ++ [⟨adV (wS p), 0, [], []⟩] } : Rt).plain, adS (wS p))) := Lib.hid (fun v => by unfold pathF; rw [e0, e1]; rfl)
      have b1 : ¬ (9223372036854775807 < (str (wV p)).size + 1) := by have := wV_short HS.out; omega
      have b2 : ¬ (9223372036854775807 < (str (wV p)).size + 1 + (str (fmtA (adV (wS p)))).size) := by have := wV_short HS.out; have h := fmtA_len (adV (wS p)); rw [str_size (fmtA (adV (wS p)))]; omega
      have ret : ∀ iv : Value, Ending.returned (.tuple #[.string (str (wV p) ++ ⟨#[32]⟩ ++ str (fmtA (adV (wS p)))), iv]) = .returned (.tuple #[strV (nmK (wV p) (fmtA (adV (wS p)))), iv]) := fun iv => by rw [str_nmK]; rfl
      have hbd : r.nb.length ≤ 1000000000 := (by have h := HR.out.nb.1; replace h : r.nb.length ≤ k := h; have := HK.out; omega)
      have one : (Nb.C ⟨adV (wS p), 0, [], []⟩).all (·.oneCell') = true := (by simp [Nb.C, strV, Value.oneCell']) 
      have ck := H1.out.kc HQ.out
      go_wp2_with fail
      have D1 := Lib.hid H1.out.drew
      go_region_held3 (fun w' => w'.cell? ⟨q, 0, none⟩ = some (.pointer (some ⟨g, 17, none⟩))) (first | assumption | with_reducible exact D1.out.kc HQ.out | with_reducible exact H2.out.kc HQ.out | with_reducible exact H3.out.kc HQ.out) (first | ((with_reducible refine (waddress_any b B (wS p) _ D1.out.st (D1.out.toBR.env HE.out) (short_wS HS.out)).mono ?_); rintro e w2 ⟨rfl, h2, k2⟩; have H2 := Lib.hid (D1.out.word h2 k2); clear h2 k2) | ((refine (add_nb H2.out ⟨adV (wS p), 0, [], []⟩ one hbd).mono ?_); rintro e w3 ⟨gg, cap, cur, rfl, h3, a3⟩; have H3 := Lib.hid h3; have A3 := Lib.hid a3; clear h3 a3))
      have HE3 : Hid (Env w3) := Lib.hid (H3.out.toBR.env HE.out).1
      have cn : w3.cell? ⟨gg, r.nb.length * 4, none⟩ = some (.int .u32 ((adV (wS p)) : Int)) := A3.out.cell (j := 0) (show 0 < 4 from by decide)
      have FA := Lib.hid (fun W (hW : Env W) => format_any (adV (wS p)) W (adV_lt _) hW)
      go_wp2_with fail
      refine (FA.out w3 HE3.out).mono ?_
      rintro e w4 ⟨rfl, h4⟩
      have H4 := Lib.hid (H3.out.on h4)
      clear h4 cn
      go_wp2_with fail
      refine (new_neighbor _ _).mono ?_
      rintro e w5 ⟨rfl, rfl⟩
      have H5 := Lib.hid (H4.out.box (.cells #[.pointer (some ⟨gg, r.nb.length * 4, none⟩)] 219))
      go_wp2_with fail
      go_ret2
      exact ⟨_, some .neighbor, _, _, [_], _, E.out _, ret _, H5.out, fun _ => ⟨rfl, rfl, rfl, rfl, rfl, rfl⟩, fun _ q => q, ⟨by decide, rfl, gg, cap, r.nb, _, _, rfl, rfl, rfl, List.mem_cons_self⟩, fun k hk => by obtain rfl := List.mem_singleton.1 hk; exact ⟨_, _, rfl⟩⟩
    | false =>
      rw [e1] at q1
      cases e2 : (wV p == [110, 101, 116, 119, 111, 114, 107]) with
      | true =>
        rw [e2] at q2
        have E : Hid (∀ v : Value, pathF kb r.plain p = (nmK (wV p) (pfxF (pxV (wS p)).1 (pxV (wS p)).2), none, ({ r with netV := v, net := r.net ++ [⟨(pxV (wS p)).1, (pxV (wS p)).2⟩] } : Rt).plain, (pxS (wS p)))) := Lib.hid (fun v => by unfold pathF; rw [e0, e1, e2]; rfl)
        have b1 : ¬ (9223372036854775807 < (str (wV p)).size + 1) := by have := wV_short HS.out; omega
        have b2 : ¬ (9223372036854775807 < (str (wV p)).size + 1 + (str (pfxF (pxV (wS p)).1 (pxV (wS p)).2)).size) := by have := wV_short HS.out; have h := pfxF_le (pxV (wS p)).1 (pxV (wS p)).2; rw [str_size (pfxF (pxV (wS p)).1 (pxV (wS p)).2)]; omega
        have ret : ∀ iv : Value, Ending.returned (.tuple #[.string (str (wV p) ++ ⟨#[32]⟩ ++ str (pfxF (pxV (wS p)).1 (pxV (wS p)).2)), iv]) = .returned (.tuple #[strV (nmK (wV p) (pfxF (pxV (wS p)).1 (pxV (wS p)).2)), iv]) := fun iv => by rw [str_nmK]; rfl
        go_wp2_with fail
        refine (wprefix_any b B (wS p) _ H1.out.st (H1.out.toBR.env HE.out) (short_wS HS.out)).mono ?_
        rintro e w2 ⟨rfl, h2, k2⟩
        have H2 := Lib.hid (H1.out.word h2 k2)
        clear h2 k2
        go_upto_region 14 with (fail)
        have X3 := Lib.hid (BX.new H2.out 71 (Pf.C ⟨(pxV (wS p)).1, (pxV (wS p)).2⟩))
        change Code.wp _ _ _ _ (w2.alloc (.cells (Pf.C ⟨(pxV (wS p)).1, (pxV (wS p)).2⟩) 71))
        generalize w2.alloc (.cells (Pf.C ⟨(pxV (wS p)).1, (pxV (wS p)).2⟩) 71) = w3 at X3 ⊢
        have hy : ∃ y : Pf, y = ⟨(pxV (wS p)).1, (pxV (wS p)).2⟩ := ⟨_, rfl⟩
        obtain ⟨y, hy⟩ := hy
        have PX := Lib.hid (pxV_lt (wS p))
        have HY : Hid (y.pa = (pxV (wS p)).1 ∧ y.pl = (pxV (wS p)).2) := Lib.hid (by rw [hy]; exact ⟨rfl, rfl⟩)
        simp only [← hy] at X3 E
        clear hy
        have hm : rowE 71 2 Pf.C r.netV r.net ∈ btR r := List.mem_of_getElem? (i := 7) rfl
        have hbd : r.net.length ≤ 1000000000 := (by have h := HR.out.net.1; replace h : r.net.length ≤ k := h; have := HK.out; omega)
        have MD := Lib.hid X3.out.drew
        have ho : OwnE w3.drew B 71 2 Pf.C r.netV r.net := rowE_own.1 (MD.out.bw.own.1 _ hm)
        obtain ⟨A0, c0, hnv, -⟩ := ho.slv
        obtain ⟨A5, m5, c5, wz, hr, ho5, hg5, hn5⟩ := ho.push (P := Tryz.prog) (Nat.le_trans MD.out.bw.bB MD.out.bw.size) kPf.sl kPf.info (by decide) (fun _ => rfl) y (Pf.one y) (by omega) (by decide) 35
        have hne : r.netV.ownBlock ≠ some g := fun e => X3.out.bw.gr (List.mem_filterMap.2 ⟨_, hm, e⟩)
        obtain ⟨c6, f6⟩ := own_kept hg5 hne (MD.out.bw.toBR.cell 21) (MD.out.bw.toBR.frz 21)
        have cr : w3.cell? ⟨g, 21, none⟩ = some (.slice A0 r.net.length c0) := by rw [← hnv]; exact X3.out.bw.toBR.cell 21
        have cra : ∀ o, (w3.alloc o).cell? ⟨g, 21, none⟩ = some (.slice A0 r.net.length c0) := fun o => (World.cell?_alloc_lt w3 o ⟨g, 21, none⟩ X3.out.bw.toBR.lt).trans cr
        have cx0 : w3.cell? ⟨w2.heap.size, 0, none⟩ = .some (.int .u32 (y.pa : Int)) := X3.out.cell 0
        have cx1 : w3.cell? ⟨w2.heap.size, 1, none⟩ = .some (.int .i64 y.pl) := X3.out.cell 1
        have hkq := X3.out.bw.keep _ (List.mem_cons_of_mem _ HQ.out)
        have ck : w3.cell? ⟨q, 0, none⟩ = some (.pointer (some ⟨g, 17, none⟩)) := X3.out.bw.kc (List.mem_cons_of_mem _ HQ.out)
        have cka : ∀ o, (w3.alloc o).cell? ⟨q, 0, none⟩ = some (.pointer (some ⟨g, 17, none⟩)) := fun o => (World.cell?_alloc_lt w3 o ⟨q, 0, none⟩ (blk_lt hkq.1)).trans ck
        have ck5 : wz.cell? ⟨q, 0, none⟩ = some (.pointer (some ⟨g, 17, none⟩)) := (own_kept hg5 (fun e => hkq.2.2 (List.mem_filterMap.2 ⟨_, hm, e⟩)) (MD.out.bw.kc (List.mem_cons_of_mem _ HQ.out)) (Lib.frozen_of_heap hkq.1 0)).1
        clear hkq
        have HB5 : Hid (BW g B w0 { r with netV := .slice A5 m5 c5, net := r.net ++ [y] } ((w2.heap.size, .cells (Pf.C y) 71 (0, 0)) :: K) (147, kb) b (pxS (wS p)) (wz.setCell ⟨g, 21, none⟩ (.slice A5 m5 c5))) := Lib.hid ((MD.out.bw.grow (r' := { r with netV := .slice A5 m5 c5, net := r.net ++ [y] }) (v := r.netV) (v' := .slice A5 m5 c5) (l := r.net) (l' := r.net ++ [y]) (E := 71) (n := 2) (C := Pf.C) (ex := []) (permAt (t := (btR r).take 7) (z := (btR r).drop 8) rfl) (permAt (t := (btR r).take 7) (z := (btR r).drop 8) rfl) (fun o ho => by cases ho) ho5 hg5 hn5 rfl))
        rw [hnv] at hr
        have HR5 := Lib.hid hr
        clear hr ho5 hn5 hg5 ho hm hne
        go_wp2_with fail
        go_region_law (refine step_appendR rfl _ _ 35 35 rfl (.slice A0 r.net.length c0) (.slice (some ⟨w3.heap.size, 0, none⟩) 1 1) (by simp [Act.eval]) (by simp [Act.eval]) HR5.out ?_)
        all_goals
          have hq : HasC 71 w2.heap.size (Pf.C y) _ := (HB5.out.keep _ List.mem_cons_self).1
          have z0 := hq.cell 0
          have z1 := hq.cell 1
          have RZ := Lib.hid hq.range
          replace z0 : _ = some (Value.int .u32 (y.pa : Int)) := z0
          replace z1 : _ = some (Value.int .i64 y.pl) := z1
          rw [HY.out.1] at z0
          rw [HY.out.2] at z1
          have HE5 := Lib.hid (HB5.out.toBR.env HE.out).1
          clear hq
          go_wp2_with fail
          refine (formatPrefix_any (pxV (wS p)).1 (pxV (wS p)).2 _ PX.out HE5.out).mono ?_
          rintro e w9 ⟨rfl, h9⟩
          have H9 := Lib.hid ((HB5.out.less (K' := K) (fun _ hk => List.mem_cons_of_mem _ hk)).on h9)
          clear h9 z0 z1
          go_wp2_with fail
          go_ret2
          exact ⟨_, none, _, _, [], .nilFunc, E.out _, ret _, H9.out, fun _ => ⟨rfl, rfl, rfl, rfl, rfl, rfl⟩, fun _ q => q, rfl, fun _ h => by cases h⟩
      | false =>
        rw [e2] at q2
        cases e3 : (wV p == [97, 103, 103, 114, 101, 103, 97, 116, 101]) with
        | true =>
          rw [e3] at q3
          have E : Hid (∀ v : Value, pathF kb r.plain p = (nmK (wV p) (pfxF (pxV (wS p)).1 (pxV (wS p)).2), none, ({ r with agV := v, ag := r.ag ++ [⟨(pxV (wS p)).1, (pxV (wS p)).2, isW [111, 110, 108, 121] (pxS (wS p))⟩] } : Rt).plain, (optS [111, 110, 108, 121] (pxS (wS p))))) := Lib.hid (fun v => by unfold pathF; rw [e0, e1, e2, e3]; rfl)
          have b1 : ¬ (9223372036854775807 < (str (wV p)).size + 1) := by have := wV_short HS.out; omega
          have b2 : ¬ (9223372036854775807 < (str (wV p)).size + 1 + (str (pfxF (pxV (wS p)).1 (pxV (wS p)).2)).size) := by have := wV_short HS.out; have h := pfxF_le (pxV (wS p)).1 (pxV (wS p)).2; rw [str_size (pfxF (pxV (wS p)).1 (pxV (wS p)).2)]; omega
          have ret : ∀ iv : Value, Ending.returned (.tuple #[.string (str (wV p) ++ ⟨#[32]⟩ ++ str (pfxF (pxV (wS p)).1 (pxV (wS p)).2)), iv]) = .returned (.tuple #[strV (nmK (wV p) (pfxF (pxV (wS p)).1 (pxV (wS p)).2)), iv]) := fun iv => by rw [str_nmK]; rfl
          go_wp2_with fail
          refine (wprefix_any b B (wS p) _ H1.out.st (H1.out.toBR.env HE.out) (short_wS HS.out)).mono ?_
          rintro e w2 ⟨rfl, h2, k2⟩
          have H2 := Lib.hid (H1.out.word h2 k2)
          clear h2 k2
          go_wp2_with fail
          refine (woption_any b B (pxS (wS p)) [111, 110, 108, 121] _ H2.out.st).mono ?_
          rintro e w3 ⟨rfl, h3, k3⟩
          have H3 := Lib.hid (H2.out.word h3 k3)
          clear h3 k3
          go_upto_region 18 with (fail)
          have X4 := Lib.hid (BX.new H3.out 126 (Ag.C ⟨(pxV (wS p)).1, (pxV (wS p)).2, isW [111, 110, 108, 121] (pxS (wS p))⟩))
          change Code.wp _ _ _ _ (w3.alloc (.cells (Ag.C ⟨(pxV (wS p)).1, (pxV (wS p)).2, isW [111, 110, 108, 121] (pxS (wS p))⟩) 126))
          generalize w3.alloc (.cells (Ag.C ⟨(pxV (wS p)).1, (pxV (wS p)).2, isW [111, 110, 108, 121] (pxS (wS p))⟩) 126) = w4 at X4 ⊢
          have hy : ∃ y : Ag, y = ⟨(pxV (wS p)).1, (pxV (wS p)).2, isW [111, 110, 108, 121] (pxS (wS p))⟩ := ⟨_, rfl⟩
          obtain ⟨y, hy⟩ := hy
          have PX := Lib.hid (pxV_lt (wS p))
          have HY : Hid (y.pa = (pxV (wS p)).1 ∧ y.pl = (pxV (wS p)).2) := Lib.hid (by rw [hy]; exact ⟨rfl, rfl⟩)
          simp only [← hy] at X4 E
          clear hy
          have hm : rowE 126 3 Ag.C r.agV r.ag ∈ btR r := List.mem_of_getElem? (i := 8) rfl
          have hbd : r.ag.length ≤ 1000000000 := (by have h := HR.out.ag.1; replace h : r.ag.length ≤ k := h; have := HK.out; omega)
          have MD := Lib.hid X4.out.drew
          have ho : OwnE w4.drew B 126 3 Ag.C r.agV r.ag := rowE_own.1 (MD.out.bw.own.1 _ hm)
          obtain ⟨A0, c0, hnv, -⟩ := ho.slv
          obtain ⟨A5, m5, c5, wz, hr, ho5, hg5, hn5⟩ := ho.push (P := Tryz.prog) (Nat.le_trans MD.out.bw.bB MD.out.bw.size) kAg.sl kAg.info (by decide) (fun _ => rfl) y (Ag.one y) (by omega) (by decide) 36
          have hne : r.agV.ownBlock ≠ some g := fun e => X4.out.bw.gr (List.mem_filterMap.2 ⟨_, hm, e⟩)
          obtain ⟨c6, f6⟩ := own_kept hg5 hne (MD.out.bw.toBR.cell 22) (MD.out.bw.toBR.frz 22)
          have cr : w4.cell? ⟨g, 22, none⟩ = some (.slice A0 r.ag.length c0) := by rw [← hnv]; exact X4.out.bw.toBR.cell 22
          have cra : ∀ o, (w4.alloc o).cell? ⟨g, 22, none⟩ = some (.slice A0 r.ag.length c0) := fun o => (World.cell?_alloc_lt w4 o ⟨g, 22, none⟩ X4.out.bw.toBR.lt).trans cr
          have cx0 : w4.cell? ⟨w3.heap.size, 0, none⟩ = .some (.int .u32 (y.pa : Int)) := X4.out.cell 0
          have cx1 : w4.cell? ⟨w3.heap.size, 1, none⟩ = .some (.int .i64 y.pl) := X4.out.cell 1
          have cx2 : w4.cell? ⟨w3.heap.size, 2, none⟩ = .some (.bool y.only) := X4.out.cell 2
          have hkq := X4.out.bw.keep _ (List.mem_cons_of_mem _ HQ.out)
          have ck : w4.cell? ⟨q, 0, none⟩ = some (.pointer (some ⟨g, 17, none⟩)) := X4.out.bw.kc (List.mem_cons_of_mem _ HQ.out)
          have cka : ∀ o, (w4.alloc o).cell? ⟨q, 0, none⟩ = some (.pointer (some ⟨g, 17, none⟩)) := fun o => (World.cell?_alloc_lt w4 o ⟨q, 0, none⟩ (blk_lt hkq.1)).trans ck
          have ck5 : wz.cell? ⟨q, 0, none⟩ = some (.pointer (some ⟨g, 17, none⟩)) := (own_kept hg5 (fun e => hkq.2.2 (List.mem_filterMap.2 ⟨_, hm, e⟩)) (MD.out.bw.kc (List.mem_cons_of_mem _ HQ.out)) (Lib.frozen_of_heap hkq.1 0)).1
          clear hkq
          have HB5 : Hid (BW g B w0 { r with agV := .slice A5 m5 c5, ag := r.ag ++ [y] } ((w3.heap.size, .cells (Ag.C y) 126 (0, 0)) :: K) (147, kb) b (optS [111, 110, 108, 121] (pxS (wS p))) (wz.setCell ⟨g, 22, none⟩ (.slice A5 m5 c5))) := Lib.hid ((MD.out.bw.grow (r' := { r with agV := .slice A5 m5 c5, ag := r.ag ++ [y] }) (v := r.agV) (v' := .slice A5 m5 c5) (l := r.ag) (l' := r.ag ++ [y]) (E := 126) (n := 3) (C := Ag.C) (ex := []) (permAt (t := (btR r).take 8) (z := (btR r).drop 9) rfl) (permAt (t := (btR r).take 8) (z := (btR r).drop 9) rfl) (fun o ho => by cases ho) ho5 hg5 hn5 rfl))
          rw [hnv] at hr
          have HR5 := Lib.hid hr
          clear hr ho5 hn5 hg5 ho hm hne
          go_wp2_with fail
          go_region_law (refine step_appendR rfl _ _ 36 36 rfl (.slice A0 r.ag.length c0) (.slice (some ⟨w4.heap.size, 0, none⟩) 1 1) (by simp [Act.eval]) (by simp [Act.eval]) HR5.out ?_)
          all_goals
            have hq : HasC 126 w3.heap.size (Ag.C y) _ := (HB5.out.keep _ List.mem_cons_self).1
            have z0 := hq.cell 0
            have z1 := hq.cell 1
            have RZ := Lib.hid hq.range
            replace z0 : _ = some (Value.int .u32 (y.pa : Int)) := z0
            replace z1 : _ = some (Value.int .i64 y.pl) := z1
            rw [HY.out.1] at z0
            rw [HY.out.2] at z1
            have HE5 := Lib.hid (HB5.out.toBR.env HE.out).1
            clear hq
            go_wp2_with fail
            refine (formatPrefix_any (pxV (wS p)).1 (pxV (wS p)).2 _ PX.out HE5.out).mono ?_
            rintro e w9 ⟨rfl, h9⟩
            have H9 := Lib.hid ((HB5.out.less (K' := K) (fun _ hk => List.mem_cons_of_mem _ hk)).on h9)
            clear h9 z0 z1
            go_wp2_with fail
            go_ret2
            exact ⟨_, none, _, _, [], .nilFunc, E.out _, ret _, H9.out, fun _ => ⟨rfl, rfl, rfl, rfl, rfl, rfl⟩, fun _ q => q, rfl, fun _ h => by cases h⟩
        | false =>
          rw [e3] at q3
          cases e4 : (wV p == [111, 114, 105, 103, 105, 110, 97, 116, 101]) with
          | true =>
            rw [e4] at q4
            have E : Hid (∀ v : Value, pathF kb r.plain p = (nmK (wV p) (pfxF (pxV (wS p)).1 (pxV (wS p)).2), none, ({ r with cdV := v, cd := r.cd ++ [⟨(pxV (wS p)).1, (pxV (wS p)).2, (pxV (chS [105, 102] [117, 110, 108, 101, 115, 115] (pxS (wS p)))).1, (pxV (chS [105, 102] [117, 110, 108, 101, 115, 115] (pxS (wS p)))).2, !chB [105, 102] [117, 110, 108, 101, 115, 115] (pxS (wS p))⟩] } : Rt).plain, (pxS (chS [105, 102] [117, 110, 108, 101, 115, 115] (pxS (wS p)))))) := Lib.hid (fun v => by unfold pathF; rw [e0, e1, e2, e3, e4]; rfl)
            have b1 : ¬ (9223372036854775807 < (str (wV p)).size + 1) := by have := wV_short HS.out; omega
            have b2 : ¬ (9223372036854775807 < (str (wV p)).size + 1 + (str (pfxF (pxV (wS p)).1 (pxV (wS p)).2)).size) := by have := wV_short HS.out; have h := pfxF_le (pxV (wS p)).1 (pxV (wS p)).2; rw [str_size (pfxF (pxV (wS p)).1 (pxV (wS p)).2)]; omega
            have ret : ∀ iv : Value, Ending.returned (.tuple #[.string (str (wV p) ++ ⟨#[32]⟩ ++ str (pfxF (pxV (wS p)).1 (pxV (wS p)).2)), iv]) = .returned (.tuple #[strV (nmK (wV p) (pfxF (pxV (wS p)).1 (pxV (wS p)).2)), iv]) := fun iv => by rw [str_nmK]; rfl
            go_wp2_with fail
            refine (wprefix_any b B (wS p) _ H1.out.st (H1.out.toBR.env HE.out) (short_wS HS.out)).mono ?_
            rintro e w2 ⟨rfl, h2, k2⟩
            have H2 := Lib.hid (H1.out.word h2 k2)
            clear h2 k2
            go_wp2_with fail
            refine (wchoice_any b B (pxS (wS p)) [105, 102] [117, 110, 108, 101, 115, 115] _ H2.out.st).mono ?_
            rintro e w3 ⟨rfl, h3, k3⟩
            have H3 := Lib.hid (H2.out.word h3 k3)
            clear h3 k3
            go_wp2_with fail
            refine (wprefix_any b B (chS [105, 102] [117, 110, 108, 101, 115, 115] (pxS (wS p))) _ H3.out.st (H3.out.toBR.env HE.out) (short_ch _ _ (short_px (short_wS HS.out)))).mono ?_
            rintro e w4 ⟨rfl, h4, k4⟩
            have H4 := Lib.hid (H3.out.word h4 k4)
            clear h4 k4
            go_upto_region 22 with (refine wpList_storeRow rfl 128 _ _ rfl rfl (ds := Cd.C ⟨(pxV (wS p)).1, (pxV (wS p)).2, (pxV (chS [105, 102] [117, 110, 108, 101, 115, 115] (pxS (wS p)))).1, (pxV (chS [105, 102] [117, 110, 108, 101, 115, 115] (pxS (wS p)))).2, !chB [105, 102] [117, 110, 108, 101, 115, 115] (pxS (wS p))⟩) rfl (HasC.new _ _ _) rfl Tryz.sizeCd (Cd.one _) ?_; intro w5 hz1 hz2)
            have X5 := Lib.hid (BX.newc H4.out hz1 (new_below hz2))
            clear hz1 hz2
            have hy : ∃ y : Cd, y = ⟨(pxV (wS p)).1, (pxV (wS p)).2, (pxV (chS [105, 102] [117, 110, 108, 101, 115, 115] (pxS (wS p)))).1, (pxV (chS [105, 102] [117, 110, 108, 101, 115, 115] (pxS (wS p)))).2, !chB [105, 102] [117, 110, 108, 101, 115, 115] (pxS (wS p))⟩ := ⟨_, rfl⟩
            obtain ⟨y, hy⟩ := hy
            have PX := Lib.hid (pxV_lt (wS p))
            have HY : Hid (y.pa = (pxV (wS p)).1 ∧ y.pl = (pxV (wS p)).2) := Lib.hid (by rw [hy]; exact ⟨rfl, rfl⟩)
            simp only [← hy] at X5 E
            clear hy
            have hm : rowE 128 5 Cd.C r.cdV r.cd ∈ btR r := List.mem_of_getElem? (i := 9) rfl
            have hbd : r.cd.length ≤ 1000000000 := (by have h := HR.out.cd.1; replace h : r.cd.length ≤ k := h; have := HK.out; omega)
            have MD := Lib.hid X5.out.drew
            have ho : OwnE w5.drew B 128 5 Cd.C r.cdV r.cd := rowE_own.1 (MD.out.bw.own.1 _ hm)
            obtain ⟨A0, c0, hnv, -⟩ := ho.slv
            obtain ⟨A5, m5, c5, wz, hr, ho5, hg5, hn5⟩ := ho.push (P := Tryz.prog) (Nat.le_trans MD.out.bw.bB MD.out.bw.size) kCd.sl kCd.info (by decide) (fun _ => rfl) y (Cd.one y) (by omega) (by decide) 37
            have hne : r.cdV.ownBlock ≠ some g := fun e => X5.out.bw.gr (List.mem_filterMap.2 ⟨_, hm, e⟩)
            obtain ⟨c6, f6⟩ := own_kept hg5 hne (MD.out.bw.toBR.cell 23) (MD.out.bw.toBR.frz 23)
            have cr : w5.cell? ⟨g, 23, none⟩ = some (.slice A0 r.cd.length c0) := by rw [← hnv]; exact X5.out.bw.toBR.cell 23
            have cra : ∀ o, (w5.alloc o).cell? ⟨g, 23, none⟩ = some (.slice A0 r.cd.length c0) := fun o => (World.cell?_alloc_lt w5 o ⟨g, 23, none⟩ X5.out.bw.toBR.lt).trans cr
            have cx0 : w5.cell? ⟨w4.heap.size, 0, none⟩ = .some (.int .u32 (y.pa : Int)) := X5.out.cell 0
            have cx1 : w5.cell? ⟨w4.heap.size, 1, none⟩ = .some (.int .i64 y.pl) := X5.out.cell 1
            have cx2 : w5.cell? ⟨w4.heap.size, 2, none⟩ = .some (.int .u32 (y.ia : Int)) := X5.out.cell 2
            have cx3 : w5.cell? ⟨w4.heap.size, 3, none⟩ = .some (.int .i64 y.il) := X5.out.cell 3
            have cx4 : w5.cell? ⟨w4.heap.size, 4, none⟩ = .some (.bool y.absent) := X5.out.cell 4
            have hkq := X5.out.bw.keep _ (List.mem_cons_of_mem _ HQ.out)
            have ck : w5.cell? ⟨q, 0, none⟩ = some (.pointer (some ⟨g, 17, none⟩)) := X5.out.bw.kc (List.mem_cons_of_mem _ HQ.out)
            have cka : ∀ o, (w5.alloc o).cell? ⟨q, 0, none⟩ = some (.pointer (some ⟨g, 17, none⟩)) := fun o => (World.cell?_alloc_lt w5 o ⟨q, 0, none⟩ (blk_lt hkq.1)).trans ck
            have ck5 : wz.cell? ⟨q, 0, none⟩ = some (.pointer (some ⟨g, 17, none⟩)) := (own_kept hg5 (fun e => hkq.2.2 (List.mem_filterMap.2 ⟨_, hm, e⟩)) (MD.out.bw.kc (List.mem_cons_of_mem _ HQ.out)) (Lib.frozen_of_heap hkq.1 0)).1
            clear hkq
            have HB5 : Hid (BW g B w0 { r with cdV := .slice A5 m5 c5, cd := r.cd ++ [y] } ((w4.heap.size, .cells (Cd.C y) 128 (0, 0)) :: K) (147, kb) b (pxS (chS [105, 102] [117, 110, 108, 101, 115, 115] (pxS (wS p)))) (wz.setCell ⟨g, 23, none⟩ (.slice A5 m5 c5))) := Lib.hid ((MD.out.bw.grow (r' := { r with cdV := .slice A5 m5 c5, cd := r.cd ++ [y] }) (v := r.cdV) (v' := .slice A5 m5 c5) (l := r.cd) (l' := r.cd ++ [y]) (E := 128) (n := 5) (C := Cd.C) (ex := []) (permAt (t := (btR r).take 9) (z := (btR r).drop 10) rfl) (permAt (t := (btR r).take 9) (z := (btR r).drop 10) rfl) (fun o ho => by cases ho) ho5 hg5 hn5 rfl))
            rw [hnv] at hr
            have HR5 := Lib.hid hr
            clear hr ho5 hn5 hg5 ho hm hne
            go_wp2_with fail
            go_region_law (refine step_appendR rfl _ _ 37 37 rfl (.slice A0 r.cd.length c0) (.slice (some ⟨w5.heap.size, 0, none⟩) 1 1) (by simp [Act.eval]) (by simp [Act.eval]) HR5.out ?_)
            all_goals
              have hq : HasC 128 w4.heap.size (Cd.C y) _ := (HB5.out.keep _ List.mem_cons_self).1
              have z0 := hq.cell 0
              have z1 := hq.cell 1
              have RZ := Lib.hid hq.range
              replace z0 : _ = some (Value.int .u32 (y.pa : Int)) := z0
              replace z1 : _ = some (Value.int .i64 y.pl) := z1
              rw [HY.out.1] at z0
              rw [HY.out.2] at z1
              have HE5 := Lib.hid (HB5.out.toBR.env HE.out).1
              clear hq
              go_wp2_with fail
              refine (formatPrefix_any (pxV (wS p)).1 (pxV (wS p)).2 _ PX.out HE5.out).mono ?_
              rintro e w9 ⟨rfl, h9⟩
              have H9 := Lib.hid ((HB5.out.less (K' := K) (fun _ hk => List.mem_cons_of_mem _ hk)).on h9)
              clear h9 z0 z1
              go_wp2_with fail
              go_ret2
              exact ⟨_, none, _, _, [], .nilFunc, E.out _, ret _, H9.out, fun _ => ⟨rfl, rfl, rfl, rfl, rfl, rfl⟩, fun _ q => q, rfl, fun _ h => by cases h⟩
          | false =>
            rw [e4] at q4
            cases e5 : (wV p == [105, 109, 112, 111, 114, 116]) with
            | true =>
              rw [e5] at q5
              have E : Hid (∀ v : Value, pathF kb r.plain p = (nmK [105, 109, 112, 111, 114, 116] (srcN (srcV (wS p))), if kb then some .redPV else none, ({ r with pvRedV := v, pvRed := r.pvRed ++ [({ (⟨0, 0, 0, [], 0⟩ : Rd) with frm := srcV (wS p) } : Rd)] } : Rt).plain, srcS (wS p))) := Lib.hid (fun v => by unfold pathF; rw [e0, e1, e2, e3, e4, e5]; rfl)
              have ck := H1.out.kc HQ.out
              go_wp2_with fail
              refine (imported_pvRed H1 HR HK).mono ?_
              rintro e w2 ⟨v, K', iv, rfl, hb, hi0, hi1, hn⟩
              have H2 := Lib.hid hb
              have HN := Lib.hid hn
              clear hb hn ck
              cases kb with
              | false =>
                obtain rfl := hi0 rfl
                clear hi0 hi1
                go_wp2_with fail
                go_ret2
                exact ⟨_, none, _, _, K', .nilFunc, E.out v, rfl, H2.out, fun _ => ⟨rfl, rfl, rfl, rfl, rfl, rfl⟩, fun _ q => q, rfl, fun k hk => HN.out k hk⟩
              | true =>
                have HI := Lib.hid (hi1 rfl)
                clear hi0 hi1
                obtain ⟨g1, cap1, l1, x1, k1, k2, e1, e2, e3, e4, e5⟩ := HI.out
                subst e3
                clear e1 e2 e4 e5
                go_wp2_with fail
                go_ret2
                exact ⟨_, some .redPV, _, _, K', _, E.out v, rfl, H2.out, fun _ => ⟨rfl, rfl, rfl, rfl, rfl, rfl⟩, fun _ q => q, ⟨by decide, rfl, HI.out⟩, fun k hk => HN.out k hk⟩
            | false =>
              rw [e5] at q5
              have E : Hid (pathF kb r.plain p = ([], none, r.plain, (wS p).fail)) := Lib.hid (by unfold pathF; rw [e0, e1, e2, e3, e4, e5]; rfl)
              have fb := H1.out.st.frz 2
              have cb := H1.out.st.bad1
              go_wp2_with fail
              clear fb cb
              go_ret2
              exact ⟨_, none, r, _, [], .nilFunc, E.out, rfl, H1.out.bad, fun _ => ⟨rfl, rfl, rfl, rfl, rfl, rfl⟩, fun _ q => q, rfl, fun _ h => by cases h⟩
end Go.Proofs.YtmddfkpkddemnaaGreatDoor
namespace Go.Proofs.YtmddfkpkddemnaaGreatDoor
theorem form_any : ∀ f, FormC f
  | .top => top_form
  | .system => system_form
  | .interfaces => interfaces_form
  | .iface => iface_form
  | .prefixRules => prefixRules_form
  | .clauses => clauses_form
  | .clause => clause_form
  | .rules => rules_form
  | .rule => rule_form
  | .translations => translations_form
  | .statics => statics_form
  | .static => static_form
  | .linkState => linkState_form
  | .distance => distance_form
  | .path => path_form
  | .neighbor => neighbor_form
  | .redLS => redLS_form
  | .redDV => redDV_form
  | .redPV => redPV_form
end Go.Proofs.YtmddfkpkddemnaaGreatDoor
