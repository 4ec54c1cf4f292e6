/- The walk of the statement AlphaComments, over any contract of CheckRouter. Condition: Go's own tables lie in memory (EnvA). -/
import Derived.Test.YtoceoaiokkbjeaaGreatDoorVam
import Derived.Test.YtoceoaiokkbjeaaGreatDoorVan
set_option maxRecDepth 8000
namespace Go.Proofs.YtoceoaiokkbjeaaGreatDoor
open Lib (hid)
open Go.RowKit
def outR (E : Rt → Int) (x : Al × Option Nat) : Rt := match x.2 with
 | some _ => rt0
 | none => if E (alRt x.1) = 0 then alRt x.1 else rt0
def outE (E : Rt → Int) (x : Al × Option Nat) : Int := match x.2 with
 | some _ => 2
 | none => E (alRt x.1)
theorem ParseP.exact {E : Rt → Int} (hE : ∀ (r : Rt) (a : Al), r.plain = alRt a → E r = E (alRt a)) {l : List UInt8} {w w' : World} {e : Ending} (h : ParseP E l w e w') (hl : zAy l = 0) {x : Al × Option Nat} (hx : zBt (zCt l) 0 Al.zero = x) {n : Nat} (hn : (zCt l).length = n) :
  Below w.heap.size w w' ∧ ∃ r : Rt, e = .returned (.tuple #[.agg r.C, .int .i64 ((x.2.getD n : Nat) : Int), .int .i64 (outE E x)]) ∧ (∀ (ks : List Nat) w'', (∀ k ∈ ks, k < w.heap.size) → Fr ks w' w'' → r.at w'' w''.heap.size) ∧ r.plain = outR E x := by
 obtain ⟨hb, -, h2⟩ := h
 have h3 := h2 hl
 refine ⟨hb, ?_⟩
 unfold ReadR at h3
 rw [zGo, hx, hn] at h3
 obtain ⟨a, o⟩ := x
 cases o with
 | some m => exact ⟨rt0, h3, fun _ _ _ _ => rt0_at _ _, rfl⟩
 | none =>
  obtain ⟨r, hp, hat, e1, e2⟩ := h3
  by_cases h0 : E r = 0
  ·have h1 : E (alRt a) = 0 := (hE r a hp).symm.trans h0
   exact ⟨r, by rw [e1 h0]; show _ = Ending.returned (.tuple #[.agg r.C, .int .i64 (n : Int), .int .i64 (E (alRt a))]); rw [h1], hat, by unfold outR; rw [if_pos h1]; exact hp⟩
  ·have h1 : ¬ E (alRt a) = 0 := fun h => h0 ((hE r a hp).trans h)
   exact ⟨rt0, by rw [e2 h0, hE r a hp]; rfl, fun _ _ _ _ => rt0_at _ _, by unfold outR; rw [if_neg h1]; rfl⟩
theorem mix_out (E : Rt → Int) {q : List (Bool × List (List UInt8))} {fs : List (List (List UInt8))} (h : q.map (·.2) = fs) {x : Al × Option Nat} (hx : zBt fs 0 Al.zero = x) :
  ∃ y m, zBt (mixL q) 0 Al.zero = y ∧ outE E y = outE E x ∧ outR E y = outR E x ∧ x.2.getD fs.length = m ∧ m ≤ q.length ∧ y.2.getD (mixL q).length = advL q m := by
 obtain ⟨h1, h2⟩ := linesS_mix q 0 0 Al.zero
 rw [h, hx] at h1 h2
 obtain ⟨a, o⟩ := x
 cases o with
 | none => exact ⟨(a, none), q.length, h1 a rfl, rfl, rfl, by rw [← h, List.length_map]; rfl, Nat.le_refl _, mixL_len q⟩
 | some m =>
  obtain ⟨j, h3, h4, h5⟩ := h2 a m rfl
  exact ⟨(a, some (0 + advL q j)), j, h5, rfl, rfl, by rw [h3, Nat.zero_add]; rfl, h4, by rw [Nat.zero_add]; rfl⟩
theorem adv_le (q : List (Bool × List (List UInt8))) : ∀ j, advL q j ≤ 2 * j
 | 0 => Nat.le_refl _
 | j + 1 => by
  have := adv_le q j
  by_cases h : j < q.length
  ·rw [advL_succ h]; split <;> omega
  ·have e : advL q (j + 1) = advL q j := by unfold advL; rw [List.take_of_length_le (by omega), List.take_of_length_le (by omega)]
   omega
theorem kOf_lt (gs : List Int) (i : Nat) : kOf gs i < 4 := by
 unfold kOf
 split <;> omega
theorem Tryz.infoInt : (Tryz.prog.info? 3).map (fun i => (i.zero, i.size, i.bytes)) = some (some (.int .i64 0), 1, 8) := by kernel_rfl
set_option maxHeartbeats 8000000 in
theorem comments_gen (E : Rt → Int) (CR : ∀ (r : Rt) (w : World) (B : Nat), r.at w B → B ≤ w.heap.size → r.fit → Calls Tryz.prog 36 #[.agg r.C] w fun e w' => e = .returned (.int .i64 (E r)) ∧ Below w.heap.size w w')
  (h0 : ∀ r : Rt, r.plain = alRt saneA → E r = 0) (hE : ∀ (r : Rt) (a : Al), r.plain = alRt a → E r = E (alRt a))
  (s : ByteArray) (A : Option Addr) (len cap : Nat) (gs : List Int) (w : World) (he : EnvA w.heap.size w) (hG : zIl w A len cap gs) : Calls Tryz.prog 5 #[.string s, .slice A len cap] w fun e w' => e = .returned (.bool true) ∧ Below w.heap.size w w' := by
 have HP := hid (fun (t : ByteArray) (W : World) (hW : Below w.heap.size w W) => zIv E CR t W (by have h := he.keep hW; exact ⟨h.1, Nat.lt_of_lt_of_le h.2 hW.size⟩))
 have HSN := hid (fun (W : World) (hW : Below w.heap.size w W) => sane_gen E CR h0 W (by have h := he.keep hW; exact ⟨h.1, Nat.lt_of_lt_of_le h.2 hW.size⟩))
 have HE := hid hE
 have HG := hid hG
 obtain ⟨i0, hi0, hz0, hz1, hz2⟩ := info_parts Tryz.infoInt
 have Hi0 := hid hi0
 have Hz0 := hid hz0
 have Hz1 := hid hz1
 have Hz2 := hid hz2
 clear he CR h0 hE hi0 hz0 hz1 hz2
 by_cases hs : 2000 < s.size
 ·have hsz : (2000 : Int) < (s.size : Int) := by omega
  go_enter Tryz.func5, Tryz.ntmps5
  go_wp2_with fail
  go_ret
  exact ⟨rfl, Below.refl _ _⟩
 have hsz : ¬ ((2000 : Int) < (s.size : Int)) := by omega
 have HSZ : Hid ((bytes s).length ≤ 2000) := hid (by rw [zCc]; omega)
 clear hs
 go_enter Tryz.func5, Tryz.ntmps5
 go_wp2_with fail
 refine (rlines_any s w).mono ?_
 rintro e w1 ⟨v1, rfl, ho1, hb1⟩
 have HB := hid hb1
 cases hl : (zAy (bytes s) != 0) with
 | true =>
  have hne : ¬ zAy (bytes s) = 0 := by simpa using hl
  clear ho1
  go_wp2_with fail
  go_ret
  exact ⟨rfl, HB.out⟩
 | false =>
 have hz : zAy (bytes s) = 0 := by simpa using hl
 have HOK := hid (gaps_ok HSZ.out hz gs)
 have H0 := hid hz
 have hlr : zGa (bytes s) = zBy (bytes s) := by unfold zGa; rw [if_pos hz]
 have hn : (zBy (bytes s)).length ≤ 2001 := by
  have := linesGo_len (bytes s) []
  have h2 := HSZ.out
  show (zAp [] (bytes s)).length ≤ 2001
  omega
 rw [hlr] at ho1
 have HLF : Hid ((zCt (bytes s)).length = (zBy (bytes s)).length) := hid (by unfold zCt; rw [List.length_map])
 generalize zBy (bytes s) = L at *
 have HS := hid (Slc.of_own ho1)
 obtain ⟨A1, c1, e1⟩ := slc_form (Slc.of_own ho1)
 subst e1
 obtain ⟨ps, hps⟩ : ∃ ps, ps = gapsP gs L := ⟨_, rfl⟩
 obtain ⟨q, hq⟩ : ∃ q, q = ps.map mixP := ⟨_, rfl⟩
 rw [← hps, ← hq] at HOK
 have hpl : ps.length = L.length := by rw [hps]; exact gapsP_len gs L
 have hql : q.length = L.length := by rw [hq, List.length_map, hpl]
 have hpg : ∀ (j : Nat) (h : j < L.length) (h2 : j < ps.length), ps[j] = (kOf gs j, L[j]) := by subst hps; exact fun j h _ => gapsP_get gs h
 have hqg : ∀ (j : Nat) (h : j < L.length) (h2 : j < q.length), q[j].1 = decide (0 < kOf gs j) := by
  intro j h h2
  subst hq
  rw [List.getElem_map, hpg j h (by rw [hpl]; exact h)]
  rfl
 have HPG := hid hpg
 have HQG := hid hqg
 have HPL := hid hpl
 have HQL := hid hql
 clear hlr hz ho1 hps hq hpl hql hpg hqg hb1 hG
 have hw1 : IntKind.i64.wrap ((L.length : Int) + 1) = (L.length : Int) + 1 := by rw [IntKind.wrap_i64]; omega
 go_wp2_with (first | (at_make; refine wpList_make_full _ rfl _ _ 53 rfl w1.heap.size 3 i0 _ 1 Tryz.underlying53 Hi0.out Hz0.out Hz1.out .i64 .i64 _ _ (L.length + 1) rfl rfl rfl rfl (by rw [Hz2.out]; omega) (by unfold maxLen; omega) (Nat.le_refl _) ?_; intro w2 hown hgr))
 have HO := hid hown
 have hxl := hown.1
 have HBW := hid ((Below.refl w1.heap.size w1).grown hgr (Nat.le_refl _) (fun k h => by cases h))
 have hxz : (madeCells (Value.int .i64 0).cells ((L.length + 1) * 1)).toList[0]? = some (.int .i64 0) := by simp [madeCells, Value.cells]
 generalize (madeCells _ ((L.length + 1) * 1)).toList = xs0 at HO hxl hxz
 have HZ := hid hxz
 clear hown hgr hxz
 go_loopg [7, 9, 10] L.length (fun gh s7 s9 s10 wr => ∃ (j : Nat) (T : ByteArray) (us : List Value), j + gh = L.length ∧ s7 = .string T ∧ s9 = .int .i64 (advL q j) ∧ s10 = .int .i64 j ∧ us.length = (L.length + 1) * 1 ∧ Hid (bytes T = (ps.take j).flatMap zDv) ∧ Hid (wr.ownsRow w1.heap.size 3 1 (.slice (some ⟨w1.heap.size, 0, none⟩) (L.length + 1) (L.length + 1)) (L.length + 1) us) ∧ Hid (∀ i, i ≤ j → us[i]? = some (.int .i64 (advL q i))) ∧ Hid (Below w1.heap.size w1 wr))
 case atStart => exact ⟨0, ⟨#[]⟩, xs0, by omega, rfl, rfl, rfl, hxl, hid rfl, HO, hid (fun i h => by obtain rfl : i = 0 := (by omega); exact HZ.out), HBW⟩
 case round =>
  clear HO hxl HBW HZ
  obtain ⟨j, T, us, hj, rfl, rfl, rfl, hul, HT, HO, HU, HBr⟩ := hrel
  by_cases hjl : j < L.length
  ·obtain ⟨g, o, eA, hg, cx⟩ := slc_at (HS.out.below HBr.out) rfl hjl
   unfold strV at cx
   subst eA
   have hpj := HPG.out j hjl (by rw [HPL.out]; exact hjl)
   have hqj := HQG.out j hjl (by rw [HQL.out]; exact hjl)
   have had := advL_succ (q := q) (i := j) (by rw [HQL.out]; exact hjl)
   rw [hqj] at had
   have htk : ps.take (j + 1) = ps.take j ++ [(kOf gs j, L[j])] := by rw [List.take_succ_eq_append_getElem (by rw [HPL.out]; exact hjl), hpj]
   have hk4 := kOf_lt gs j
   have hle := adv_le q j
   have hkg : (j < len ∧ ∃ g' o' x, A = some ⟨g', o', none⟩ ∧ wr.cell? ⟨g', o' + j, none⟩ = some (.int .u8 x) ∧ g' < w.heap.size ∧ x.tmod 4 = (kOf gs j : Int)) ∨ (¬ j < len ∧ kOf gs j = 0) := by
    obtain ⟨h1, h2, h3⟩ := HG.out
    by_cases hjn : j < len
    ·left
     obtain ⟨A', c', e, _, _, _, h⟩ := h1
     injection e with e1 e2 e3
     subst e1
     obtain ⟨g', o', rfl, hg', hc⟩ := h (by omega)
     have hjg : j < gs.length := by omega
     have hw := HBr.out.mono HB.out.size
     refine ⟨hjn, g', o', gs[j], rfl, ?_, hg', ?_⟩
     ·exact ((HB.out.trans hw).cell (p := ⟨g', o' + j, none⟩) hg').trans (hc j _ (by rw [List.getElem?_map, List.getElem?_eq_getElem hjg]; rfl))
     ·have h4 := h3 _ (List.getElem_mem hjg)
      unfold kOf
      rw [if_pos hjg, Int.tmod_eq_emod_of_nonneg h4.1, List.getD_eq_getElem?_getD, List.getElem?_eq_getElem hjg]
      show _ = (((gs[j] % 4).toNat : Nat) : Int)
      omega
    ·right
     refine ⟨hjn, ?_⟩
     unfold kOf
     rw [if_neg (by omega)]
   generalize kOf gs j = k at *
   generalize L[j] = x at *
   have HTK := hid htk
   have HUL := hid hul
   have HGS : Hid (∀ p v, w1.heap.size ≤ (wr.setCell p v).heap.size) := hid (fun p v => by simpa using HBr.out.size)
   have KU : Hid (∀ i, i ≤ j + 1 → (us.set (j + 1) (.int .i64 (advL q (j + 1) : Nat)))[i]? = some (.int .i64 (advL q i))) := hid (fun i hi => by
    by_cases h : i = j + 1
    ·subst h; rw [List.getElem?_set_self (by rw [hul]; omega)]
    ·rw [List.getElem?_set_ne (by omega)]; exact HU.out i (by omega))
   have HAD := hid had
   have hnw : IntKind.i64.wrap ((advL q j : Int) + 1) = (advL q j : Int) + 1 := by rw [IntKind.wrap_i64]; omega
   have hnw2 : IntKind.i64.wrap ((advL q j : Int) + 1 + 1) = (advL q j : Int) + 1 + 1 := by rw [IntKind.wrap_i64]; omega
   have hjw : IntKind.i64.wrap ((j : Int) + 1) = (j : Int) + 1 := by rw [IntKind.wrap_i64]; omega
   have hgr : g < wr.heap.size := Nat.lt_of_lt_of_le hg HBr.out.size
   have hgb : w1.heap.size < wr.heap.size := (HO.out.lt _ rfl).2
   have cxa : ∀ o', (wr.alloc o').cell? ⟨g, o + j, none⟩ = some (.string (str x)) := fun o' => (World.cell?_alloc_lt _ _ _ hgr).trans cx
   obtain ⟨y, hy⟩ : ∃ y, us[j + 1]? = some y := ⟨us[j + 1]'(by rw [hul]; omega), List.getElem?_eq_getElem _⟩
   have cs1 : ∀ o', (wr.alloc o').cell? ⟨w1.heap.size, j + 1, none⟩ = some y := fun o' => ((HO.out.alloc o').cellAt (j + 1) (by omega)).trans hy
   have fs1 : ∀ o', (wr.alloc o').frozen? ⟨w1.heap.size, j + 1, none⟩ = false := fun o' => (HO.out.alloc o').frozenAt (j + 1)
   have hsz2 : T.size ≤ 65536 ∧ (str x).size ≤ 65536 := by
    have h1 : (ps.flatMap zDv).length ≤ 65536 := by
     have h2 := HOK.out.1
     unfold zAy at h2
     by_cases h : 65536 < (ps.flatMap zDv).length
     ·rw [if_pos h] at h2; cases h2
     ·omega
    have h2 : (ps.flatMap zDv).length = ((ps.take (j + 1)).flatMap zDv).length + ((ps.drop (j + 1)).flatMap zDv).length := by rw [← List.length_append, ← List.flatMap_append, List.take_append_drop]
    rw [htk, List.flatMap_append, ← HT.out, List.length_append, zCc] at h2
    have h3 : ([(k, x)].flatMap zDv).length = (gapW k).length + (x.length + 5 + 1) + 1 := by simp [zDv, lineG, comW]; omega
    rw [zEa]
    omega
   obtain ⟨hs1, hs2⟩ := hsz2
   clear hpj hqj htk had cx hle
   have hk : k = 0 ∨ k = 1 ∨ k = 2 ∨ k = 3 := by omega
   rcases hkg with ⟨hjn, g', o', z, rfl, cz, hgz, hz⟩ | ⟨hjn, rfl⟩
   ·have hjz : (j : Int) < (len : Int) := by omega
    rcases hk with rfl | rfl | rfl | rfl
    all_goals
     go_wp2_with fail
     go_roundg (L.length - (j + 1))
     case measure => omega
     case rel => exact ⟨j + 1, _, us.set (j + 1) (.int .i64 (advL q (j + 1) : Nat)), by omega, rfl, by rw [HAD.out]; rfl, by go_num, by rw [List.length_set]; exact HUL.out, hid (by rw [zDz, zDz, zDz, zDz, zBa, HTK.out, List.flatMap_append, ← HT.out]; simp [zDv, gapW, lineG, comW, bytes]), hid (by rw [HAD.out]; exact (HO.out.stored (j + 1) _).1.alloc _), KU, hid ((HBr.out.setCell (Nat.le_refl _) _).alloc (HGS.out _ _) _)⟩
   ·have hjz : ¬ (j : Int) < (len : Int) := by omega
    go_wp2_with fail
    go_roundg (L.length - (j + 1))
    case measure => omega
    case rel => exact ⟨j + 1, _, us.set (j + 1) (.int .i64 (advL q (j + 1) : Nat)), by omega, rfl, by rw [HAD.out]; rfl, by go_num, by rw [List.length_set]; exact HUL.out, hid (by rw [zDz, zDz, zDz, zDz, zBa, HTK.out, List.flatMap_append, ← HT.out]; simp [zDv, gapW, lineG, comW, bytes]), hid (by rw [HAD.out]; exact (HO.out.stored (j + 1) _).1.alloc _), KU, hid ((HBr.out.setCell (Nat.le_refl _) _).alloc (HGS.out _ _) _)⟩
  ·have hjz : ¬ (j : Int) < (L.length : Int) := by omega
   obtain rfl : j = L.length := by omega
   have HT2 : bytes T = ps.flatMap zDv := by rw [HT.out, List.take_of_length_le (by rw [HPL.out]; exact Nat.le_refl _)]
   obtain ⟨o1, o2, o3⟩ := HOK.out
   rw [← HT2] at o1 o2
   obtain ⟨X, hX⟩ : ∃ X, zBt (zCt (bytes s)) 0 Al.zero = X := ⟨_, rfl⟩
   obtain ⟨Y, m, hY, hYE, hYR, hm, hmq, hYm⟩ := mix_out E o3 hX
   rw [HLF.out] at hm
   rw [HQL.out] at hmq
   have HX := hid hX
   have HM := hid hm
   have HY : Hid (zBt (zCt (bytes T)) 0 Al.zero = Y) := hid (by rw [o2]; exact hY)
   have HYM : Hid (Y.2.getD (zCt (bytes T)).length = advL q m) := hid (by rw [o2]; exact hYm)
   have O1 := hid o1
   have HYE := hid hYE
   have HYR := hid hYR
   have HUM := hid (HU.out m hmq)
   have HBW : Hid (Below w.heap.size w wr) := hid (HB.out.trans (HBr.out.mono HB.out.size))
   have HWL := hid HBr.out.size
   clear o1 o2 o3 hX hY hYE hYR hm hYm HT2 hul
   go_wp2_with fail
   refine (HP.out s wr HBW.out).mono ?_
   intro e w3 h3
   obtain ⟨hb3, r, rfl, hat, hpr⟩ := h3.exact HE.out H0.out HX.out HLF.out
   rw [HM.out]
   have HB3 := hid hb3
   have HAT := hid hat
   have HPR := hid hpr
   have HA3 := hid (hat [] w3 (fun _ h => by cases h) (Fr.refl _ _))
   clear h3 hb3 hat hpr
   go_upto_region 22 with (refine zAd rfl 41 _ _ rfl rfl (ds := r.C) rfl (HasC.new _ _ _) rfl Tryz.sizeRt HA3.out.one ?_; intro w4 hz1 hz2)
   have HB4 := hid (zAn hz2)
   have X4 := hid hz1
   have HBV : Hid (Below w.heap.size w w4) := hid (HBW.out.trans ((HB3.out.trans (HB4.out.mono HB3.out.size)).mono HBW.out.size))
   clear hz1 hz2
   go_wp2_with fail
   refine (HP.out T w4 HBV.out).mono ?_
   intro e w5 h5
   obtain ⟨hb5, x, rfl, hat2, hpx⟩ := h5.exact HE.out O1.out HY.out rfl
   rw [HYM.out, HYE.out]
   rw [HYR.out] at hpx
   have HB5 := hid hb5
   have HPX := hid (HPR.out.trans hpx.symm)
   have HA5 := hid (hat2 [] w5 (fun _ h => by cases h) (Fr.refl _ _))
   clear h5 hb5 hat2 hpx
   go_upto_region 23 with (refine zAd rfl 41 _ _ rfl rfl (ds := x.C) rfl (HasC.new _ _ _) rfl Tryz.sizeRt HA5.out.one ?_; intro w6 hz1 hz2)
   have HB6 := hid (zAn hz2)
   have X6 := hid hz1
   have HB46 : Hid (Below w4.heap.size w4 w6) := hid (HB5.out.trans (HB6.out.mono HB5.out.size))
   have HB36 : Hid (Below w3.heap.size w3 w6) := hid (HB4.out.trans (HB46.out.mono HB4.out.size))
   have HBr6 : Hid (Below wr.heap.size wr w6) := hid (HB3.out.trans (HB36.out.mono HB3.out.size))
   have X5 := hid (X4.out.keep HB46.out)
   have HAR := hid ((HA3.out.below HB36.out).lift HB36.out.size)
   have HAX := hid ((HA5.out.below HB6.out).lift HB6.out.size)
   have HSM := hid (same_any r x w6 w6.heap.size HAR.out HAX.out (Nat.le_refl _) HPX.out)
   have HB06 : Hid (Below w.heap.size w w6) := hid (HBW.out.trans (HBr6.out.mono HBW.out.size))
   have HOF := hid (own_below HO.out HBr6.out)
   clear hz1 hz2
   go_wp2_with (first | (refine zAx (by rfl) (zAa rfl 41 _ rfl rfl X5.out.range Tryz.rowRt Tryz.sizeRt ?_)) | (refine zAx (by rfl) (zAa rfl 41 _ rfl rfl X6.out.range Tryz.rowRt Tryz.sizeRt ?_)))
   refine HSM.out.mono ?_
   rintro e w7 ⟨rfl, hb7⟩
   have HB7 : Hid (Below w.heap.size w w7) := hid (HB06.out.trans (hb7.mono HB06.out.size))
   have hcm : w7.cell? ⟨w1.heap.size, m, none⟩ = some (.int .i64 (advL q m : Nat)) := ((own_below HOF.out hb7).cellAt m (by omega)).trans HUM.out
   have hmz : (m : Int) ≤ (L.length : Int) := by omega
   have hmz0 : (0 : Int) ≤ (m : Int) := by omega
   clear hb7
   go_wp2_with fail
   refine (HSN.out w7 HB7.out).mono ?_
   rintro e w8 ⟨rfl, hb8⟩
   have HB8 := hid hb8
   clear hb8
   go_wp2_with fail
   go_ret
   exact ⟨rfl, HB7.out.trans (HB8.out.mono HB7.out.size)⟩
end Go.Proofs.YtoceoaiokkbjeaaGreatDoor
