/- The walks of beta's cursor: sequence, over node's contract. Condition: the tokens lie below the cursor; there are no more than 65536. -/
import Derived.Test.YtmddfkpkddemnaaGreatDoorUx
import Derived.Test.YtmddfkpkddemnaaGreatDoorUab
import Derived.Test.YtmddfkpkddemnaaGreatDoorUad
import Derived.Test.YtmddfkpkddemnaaGreatDoorUz
namespace Go.Proofs.YtmddfkpkddemnaaGreatDoor
open Go.RowKit
theorem KeyMap.map {P : Program} {k e : TypeId} {b n : Nat} {ks : List (List UInt8)} {w : World} (h : KeyMap P k e b n ks w) : ∃ (o : Obj), w.heap[b]? = some o ∧ ∀ cs E z, o ≠ .cells cs E z := by
  obtain ⟨D, ⟨es, c, h0, h1⟩, h2⟩ := h
  exact ⟨_, h0, fun _ _ _ e => by cases e⟩
def resL (o : Option (Int × Int)) : Int := (o.map Prod.fst).getD 0
def resE (o : Option (Int × Int)) : Int := (o.map Prod.snd).getD 0
/-- What read answers: as readN says. -/
def ReadP (f : Fm) (g B : Nat) (w0 : World) (r : Rt) (K : Kept) (ns : List Nd) (e : Ending) (w' : World) : Prop :=
  ∃ r' res, readN f [] ns r.plain = (r'.plain, res) ∧ e = .returned (.tuple #[.int .i64 (resL res), .int .i64 (resE res)]) ∧ BR g B w0 r' K w' ∧ (f ≠ .top → Stay r r')
abbrev ReadC (n : Nat) : Prop := ∀ (f : Fm) (ns : List Nd) (v fv : Value) (g B k : Nat) (w0 w : World) (r : Rt) (K : Kept), sizeL ns ≤ n → BR g B w0 r K w → FmV f g r K fv → NdV w0 (· < B) v ns → NdsOk ns → EnvA B w0 → RtI k r.plain → k + sizeL ns ≤ 1000000 →
  Calls Tryz.prog 37 #[v, fv] w (ReadP f g B w0 r K ns)
/-- Ahead of the i-th node. -/
def RdI (f : Fm) (fv : Value) (g B : Nat) (w0 : World) (r : Rt) (K : Kept) (ns : List Nd) (k m i : Nat) (w : World) : Prop :=
  ∃ (ks : List (List UInt8)) (rc : Rt) (o : Obj), BR g B w0 rc ((m, o) :: K) w ∧ KeyMap Tryz.prog 9 4 m i ks w ∧ FmV f g rc K fv ∧ (f ≠ .top → Stay r rc) ∧ readN f [] ns r.plain = readN f ks (ns.drop i) rc.plain ∧ RtI (k + sizeL (ns.take i)) rc.plain
theorem NdsOk.get : ∀ {ns : List Nd} (i : Nat) (h : i < ns.length), NdsOk ns → NdOk ns[i]
  | n :: r, 0, _, h => by rw [NdsOk] at h; exact h.1
  | n :: r, i + 1, hi, h => by rw [NdsOk] at h; exact NdsOk.get i (by simpa using hi) h.2
theorem take_size {ns : List Nd} {i : Nat} (h : i < ns.length) : sizeL (ns.take (i + 1)) = sizeL (ns.take i) + ns[i].size := by
  rw [List.take_succ_eq_append_getElem h, sizeL_append, sizeL, sizeL, Nat.add_zero]
theorem take_le (ns : List Nd) (i : Nat) : sizeL (ns.take i) ≤ sizeL ns := by
  conv => rhs; rw [← List.take_append_drop i ns, sizeL_append]
  omega
theorem get_size {ns : List Nd} {i : Nat} (h : i < ns.length) : sizeL (ns.take i) + ns[i].size ≤ sizeL ns := by rw [← take_size h]; exact take_le ns _
theorem len_size : ∀ ns : List Nd, ns.length ≤ sizeL ns
  | [] => Nat.le_refl _
  | .mk a b c d :: r => by
    have := len_size r
    simp only [sizeL, Nd.size, List.length_cons]; omega
theorem NdV.below {w w' : World} {B : Nat} {v : Value} {ns : List Nd} (h : NdV w (· < B) v ns) (hb : Below B w w') (hz : w.heap.size ≤ w'.heap.size) : NdV w' (· < B) v ns := h.frame (fun k hk _ => ⟨hk, hb.block k hk⟩) hz
/-- A node's key and its map, written. -/
theorem BR.mapped {g B m : Nat} {w0 w w' : World} {r : Rt} {K K' : Kept} {o : Obj} {i : Nat} {ks : List (List UInt8)} (h : BR g B w0 r K' w) (hm : (m, o) ∈ K') (hK : ∀ k ∈ K, k ∈ K' ∧ k.1 ≠ m) (hg : w.grownBy w' (some m)) (hB : B ≤ m) (hk : KeyMap Tryz.prog 9 4 m i ks w') : ∃ o', BR g B w0 r ((m, o') :: K) w' := by
  obtain ⟨o', ho⟩ := hk.obj
  exact ⟨o', (h.less (K' := (m, o) :: K) (fun k hk => (List.mem_cons.1 hk).elim (fun e => e ▸ hm) (fun hk => (hK k hk).1))).map hg ho hB (fun k hk => (hK k hk).2)⟩
theorem node_one {w : World} {S : Nat → Prop} {line : Int} {wv kv : Value} {blk : Bool} {ws : List (List UInt8)} {kids : List Nd} (hw : WdS w S wv ws) (hk : NdV w S kv kids) : (#[.int .i64 line, wv, .bool blk, kv] : Array Value).all (·.oneCell') = true := by
  obtain ⟨A, c, rfl, -⟩ := hw
  obtain ⟨A', c', rfl, -⟩ := hk
  rw [Array.all_eq_true_iff_forall_mem]
  intro v hv
  simp only [List.mem_toArray, List.mem_cons, List.not_mem_nil, or_false] at hv
  rcases hv with rfl | rfl | rfl | rfl <;> rfl
theorem FmV.func {f : Fm} {g : Nat} {r : Rt} {K : Kept} {fv : Value} (h : FmV f g r K fv) : ∃ F pre cap, fv = .func (.func F) pre cap := by
  cases f
  all_goals first
    | exact ⟨_, _, _, h⟩
    | (obtain ⟨gg, cap, l0, x, k, e1, e2, e3, e4⟩ := h; exact ⟨_, _, _, e3⟩)
    | (obtain ⟨m0, m, e, gg, cap, l0, x, k, e1, e2, e3, e4⟩ := h; exact ⟨_, _, _, e3⟩)
    | (obtain ⟨k, e1, e2⟩ := h; exact ⟨_, _, _, e1⟩)
    | (obtain ⟨gg, cap, l0, x, k, k2, e1, e2, e3, e4, e5⟩ := h; exact ⟨_, _, _, e3⟩)
mutual
/-- An error of readN is ErrSyntax or ErrDuplicate. -/
theorem readN_two (f : Fm) : ∀ (ns : List Nd) (keys : List (List UInt8)) (r : Rt) (e : Int × Int), (readN f keys ns r).2 = some e → e.2 = 2 ∨ e.2 = 4
  | [], _, _, e, h => by simp [readN] at h
  | n :: ns, keys, r, e, h => by
    have h1 := readOne_two f n keys r
    simp only [readN] at h
    revert h1 h
    match readOne f keys n r with
    | (r', k', none) => intro h _; exact readN_two f ns k' r' e h
    | (r', k', some e') => intro h h1; simp only [Option.some.injEq] at h; subst h; exact h1 _ rfl
theorem readOne_two (f : Fm) : ∀ (n : Nd) (keys : List (List UInt8)) (r : Rt) (e : Int × Int), (readOne f keys n r).2.2 = some e → e.2 = 2 ∨ e.2 = 4
  | .mk line words blk kids, keys, r, e, h => by
    simp only [readOne] at h
    revert h
    match fmS f blk r ⟨words, false⟩ with
    | (key, inner, r', p) =>
      simp only
      split
      · intro h; simp only [Option.some.injEq] at h; subst h; exact .inl rfl
      · split
        · intro h; simp only [Option.some.injEq] at h; subst h; exact .inr rfl
        · cases inner with
          | none => intro h; simp at h
          | some g => intro h; exact readN_two g kids [] r' e h
end
theorem form_ne0 : ∀ W : World, (binOp .neq 143 .nilFunc .nilFunc).run Tryz.prog W = .ok (.bool false) W := fun _ => by kernel_rfl
theorem form_eq0 : ∀ W : World, (binOp .eql 143 .nilFunc .nilFunc).run Tryz.prog W = .ok (.bool true) W := fun _ => by kernel_rfl
theorem form_ne1 (F : Nat) (pre cap : Array Value) : ∀ W : World, (binOp .neq 143 (.func (.func F) pre cap) .nilFunc).run Tryz.prog W = .ok (.bool true) W := fun _ => by kernel_rfl
theorem form_eq1 (F : Nat) (pre cap : Array Value) : ∀ W : World, (binOp .eql 143 (.func (.func F) pre cap) .nilFunc).run Tryz.prog W = .ok (.bool false) W := fun _ => by kernel_rfl
theorem key_empty (l : List UInt8) : ((str l).toList == []) = l.isEmpty := by rw [toList_str]; cases l <;> rfl
set_option maxRecDepth 8000 in
set_option maxHeartbeats 16000000 in
theorem read_step (FC : ∀ f, FormC f) (n : Nat) (IH : ∀ j, j < n → ReadC j) : ReadC n := by
  intro f ns v fv g B k w0 w r K hsz h hf hn hok he hr hk
  obtain ⟨A0, c0, rfl, hc0, hmx, -⟩ : ∃ A c, v = .slice A ns.length c ∧ ns.length ≤ c ∧ ns.length ≤ maxLen ∧ True := by obtain ⟨A, c, e, h1, h2, -⟩ := hn; exact ⟨A, c, e, h1, h2, trivial⟩
  have hlen := len_size ns
  obtain ⟨F0, pre0, cap0, rfl⟩ := hf.func
  have H := Lib.hid h
  have HF := Lib.hid hf
  have HN := Lib.hid (hn.below h.bel h.size)
  have HO := Lib.hid hok
  have HE := Lib.hid he
  have HR := Lib.hid hr
  have HK := Lib.hid hk
  have HIH := Lib.hid IH
  have HFC := Lib.hid FC
  have HSZ := Lib.hid hsz
  have HN0 := Lib.hid hn
  have HLN := Lib.hid (Nat.le_trans hlen (Nat.le_trans (Nat.le_add_left _ k) hk))
  clear h hf hn hok he hr hk IH FC hsz hc0 hmx hlen
  have hmk : ∀ W, (Instr.makeMap 144 none).run Tryz.prog W = .ok (.map (some W.heap.size)) (W.alloc (.map #[] 0)) := fun _ => rfl
  go_enter Tryz.func37, Tryz.ntmps37
  go_upto_region 2 with (fail)
  clear hmk
  have HM : Hid (KeyMap Tryz.prog 9 4 w.heap.size 0 [] (w.alloc (.map #[] 0))) := Lib.hid (KeyMap.made w _ _ _)
  have HB1 := Lib.hid ((Below.refl w.heap.size w).alloc (Nat.le_refl _) (.map #[] 0))
  have H1 := Lib.hid (H.out.box HB1.out (heap_alloc_new w _) (Nat.le_refl _))
  have HKM : Hid (∀ k ∈ K, k.1 ≠ w.heap.size) := Lib.hid (fun k hk => Nat.ne_of_lt (blk_lt (H.out.keep k hk).1))
  have HBm : Hid (B ≤ w.heap.size) := Lib.hid (Nat.le_trans H.out.bB H.out.size)
  change Code.wp _ _ _ _ (w.alloc (.map #[] 0))
  generalize w.alloc (.map #[] 0) = wA at HM HB1 H1 ⊢
  obtain ⟨m, hm⟩ : ∃ m, m = w.heap.size := ⟨_, rfl⟩
  simp only [← hm] at HM H1 HKM HBm ⊢
  clear hm
  go_wp2_with fail
  go_loopg [17] ns.length (fun gh ix wr => ∃ j : Nat, j + gh = ns.length ∧ ix = .int .i64 j ∧ Hid (RdI f (.func (.func F0) pre0 cap0) g B w0 r K ns k m j wr))
  case atStart => exact ⟨0, by omega, rfl, Lib.hid ⟨[], r, _, H1.out, HM.out, HF.out, fun _ => Stay.refl r, rfl, by rw [List.take_zero]; exact HR.out⟩⟩
  case round =>
    clear H1 HM HB1 H
    obtain ⟨j, hj, rfl, HI⟩ := hrel
    by_cases hjl : j < ns.length
    case neg =>
      have hjz : ¬ (j : Int) < (ns.length : Int) := by omega
      go_wp2_with fail
      go_ret2
      obtain ⟨ks, rc, o, h1, -, -, h4, h5, -⟩ := HI.out
      refine ⟨rc, none, ?_, rfl, h1.less (fun _ hk => List.mem_cons_of_mem _ hk), h4⟩
      rw [h5, List.drop_eq_nil_of_le (by omega)]
      simp [readN]
    case pos =>
      have hjz : (j : Int) < (ns.length : Int) := by omega
      obtain ⟨ks, rc, o, h1, h2, h3, h4, h5, h6⟩ := HI.out
      have H1 := Lib.hid h1
      have H2 := Lib.hid h2
      have H3 := Lib.hid h3
      have H4 := Lib.hid h4
      have H6 := Lib.hid h6
      have H5 : Hid (readN f [] ns r.plain = readN f ks (ns[j] :: ns.drop (j + 1)) rc.plain) := Lib.hid (by rw [h5, List.drop_eq_getElem_cons hjl])
      have HOK := Lib.hid (HO.out.get j hjl)
      have HTS := Lib.hid (take_size hjl)
      have HGS := Lib.hid (get_size hjl)
      obtain ⟨gn, cn, cs, ev, hgn, hgl, hnc, hrg0⟩ := HN0.out.at hjl
      have hrg := rangeAt_blk hrg0 (h1.bel.block gn hgn)
      injection ev with ev1 ev2 ev3
      subst ev1 ev3
      have HBL := Lib.hid h1.bel
      clear h1 h2 h3 h4 h5 h6 ev2 HI hrg0
      generalize ns[j] = nd at H5 HOK HTS HGS hnc
      obtain ⟨line, ws, blk, kids⟩ := nd
      obtain ⟨wv, kv, rfl, hwd, hkd⟩ := NdC.iff.1 hnc
      have HRG := Lib.hid hrg
      have HWD := Lib.hid hwd
      have HKD := Lib.hid hkd
      rw [NdOk] at HOK
      clear hnc hrg hwd hkd
      go_upto_region 5 with (first | (refine wpList_loadRow rfl 140 _ rfl rfl HRG.out Tryz.rowNode Tryz.sizeNode ?_) | (refine wpList_storeRow rfl 140 _ _ rfl rfl (ds := #[.int .i64 line, wv, .bool blk, kv]) rfl (HasC.new _ _ _) rfl Tryz.sizeNode ?one ?_; (case one => exact node_one HWD.out HKD.out); intro w2 hz1 hz2))
      have HNW := Lib.hid hz1
      have HNB := Lib.hid (new_below hz2)
      have HQ : Hid (BR g B w0 rc ((wr.heap.size, .cells #[.int .i64 line, wv, .bool blk, kv] 140 (0, 0)) :: (m, o) :: K) w2) := Lib.hid (H1.out.box HNB.out hz1 (Nat.le_refl _))
      have HKM2 := Lib.hid (H2.out.blk ((HQ.out.keep (m, o) (by simp)).1.trans (H1.out.keep (m, o) (by simp)).1.symm))
      have HWD2 := Lib.hid (HWD.out.frame (w' := w2) (S' := (· < B)) (fun k hk _ => ⟨hk, HQ.out.bel.block k hk⟩) HQ.out.size)
      obtain ⟨q, hq⟩ : ∃ q, q = wr.heap.size := ⟨_, rfl⟩
      simp only [← hq] at HNW HQ ⊢
      have HQR : Hid (wr.heap.size ≤ q) := Lib.hid (by omega)
      have HQM : Hid (q ≠ m) := Lib.hid (fun e => by have := blk_lt (H1.out.keep (m, o) List.mem_cons_self).1; have := HQR.out; dsimp only at *; omega)
      clear hz1 hz2 hq HWD HRG H1 H2 HBL
      obtain ⟨Aw, cw, ew, hcw⟩ : ∃ A c, wv = .slice A ws.length c ∧ ws.length ≤ c := (HWD2.out.slc (fun _ h => h)).2
      subst ew
      obtain ⟨Ak, ck, ek, hck⟩ : ∃ A c, kv = .slice A kids.length c ∧ True := by obtain ⟨A, c, e, -⟩ := HKD.out; exact ⟨A, c, e, trivial⟩
      subst ek
      have cq1 := HNW.out.cell 1
      have cq2 := HNW.out.cell 2
      go_upto_region 6 with (fail)
      have HWN := Lib.hid (HasC.new w2 147 #[.slice Aw ws.length cw, .bool blk, .bool false])
      have HB3 := Lib.hid ((Below.refl w2.heap.size w2).alloc (Nat.le_refl _) (.cells #[.slice Aw ws.length cw, .bool blk, .bool false] 147))
      have hBw : B ≤ w2.heap.size := Nat.le_trans HQ.out.bB HQ.out.size
      change Code.wp _ _ _ _ (w2.alloc (.cells #[.slice Aw ws.length cw, .bool blk, .bool false] 147))
      generalize w2.alloc (.cells #[.slice Aw ws.length cw, .bool blk, .bool false] 147) = w3 at HWN HB3 ⊢
      have HBW := Lib.hid (HQ.out.words (T := (147, blk)) ((HWD2.out.slc (fun _ h => h)).1.below (HB3.out.mono hBw)) ⟨Aw, cw, rfl, hcw⟩ HB3.out HWN.out (Nat.le_refl _))
      clear hBw HWN cq1 cq2
      generalize w2.heap.size = bq at HBW ⊢
      obtain ⟨F, pre, cap, efv, heg, hcall⟩ := HFC.out f g B bq (k + sizeL (ns.take j)) w0 w3 rc _ blk ⟨ws, false⟩ (.func (.func F0) pre0 cap0) HBW.out (H3.out.mono (fun k hk => List.mem_cons_of_mem _ (List.mem_cons_of_mem _ hk))) HE.out HOK.2.1 H6.out (by have := HK.out; have := HGS.out; have := HSZ.out; omega)
      injection efv with ef1 ef2 ef3
      injection ef1 with ef1
      subst ef1 ef2 ef3
      have HC := Lib.hid hcall
      clear hcall
      go_wp2_with fail
      refine HC.out.mono ?_
      rintro e w4 ⟨key, inner, r', p', K', iv, hq', rfl, hbw, hst, hfm, hinn, hnew⟩
      have HBX := Lib.hid hbw
      have HST := Lib.hid hst
      have HFM := Lib.hid (hfm K H3.out)
      have HIN := Lib.hid hinn
      have HNE := Lib.hid hnew
      have HQ' := Lib.hid hq'
      have HKY : Hid (key.length ≤ 2000000100) := Lib.hid (by have := fm_key (f := f) (blk := blk) (r := rc.plain) (p := ⟨ws, false⟩) HOK.2.1; rw [hq'] at this; exact this)
      have HRI : Hid (RtI (k + sizeL (ns.take j) + 1) r'.plain) := Lib.hid (by have := fmS_ok f blk H6.out ⟨ws, false⟩; rw [hq'] at this; exact this)
      have HKM4 := Lib.hid (HKM2.out.blk ((hbw.keep (m, o) (by simp)).1.trans (HQ.out.keep (m, o) (by simp)).1.symm))
      have HNQ : Hid (HasC 140 q #[.int .i64 line, .slice Aw ws.length cw, .bool blk, .slice Ak kids.length ck] w4) := Lib.hid (hbw.keep (q, _) (by simp)).1
      clear hbw hst hfm hinn hnew hq' HC heg HBW HB3 HQ HKM2 HNW HNB
      have cq0 : w4.cell? ⟨q, 0, none⟩ = some (.int .i64 line) := HNQ.out.cell 0
      have cq2 : w4.cell? ⟨q, 2, none⟩ = some (.bool blk) := HNQ.out.cell 2
      have cq3 : w4.cell? ⟨q, 3, none⟩ = some (.slice Ak kids.length ck) := HNQ.out.cell 3
      go_wp2_with fail
      refine (wdone_any bq B p' w4 HBX.out.st).mono ?_
      rintro e _ ⟨rfl, rfl⟩
      cases hd : doneB p' with
      | false =>
        go_wp2_with fail
        go_ret2
        exact ⟨r', some (line, 2), by rw [H5.out]; exact readN_bad HQ'.out (by rw [hd]; rfl), rfl, HBX.out.toBR.less (fun x hx => by simp [hx]), fun h => (H4.out h).trans (HST.out h)⟩
      | true =>
        cases inner with
        | none =>
          obtain rfl : iv = .nilFunc := HIN.out
          have fn0 := form_ne0
          have fe0 := form_eq0
          cases blk with
          | true =>
            go_wp2_with fail
            go_ret2
            exact ⟨r', some (line, 2), by rw [H5.out]; exact readN_bad HQ'.out (by rw [hd]; rfl), rfl, HBX.out.toBR.less (fun x hx => by simp [hx]), fun h => (H4.out h).trans (HST.out h)⟩
          | false =>
            have hb : (!doneB p' || false != (none : Option Fm).isSome) = false := by rw [hd]; rfl
            have HE0 := key_empty key
            unfold strV
            cases he : key.isEmpty with
            | true =>
              rw [he] at HE0
              have hk : (!key.isEmpty && ks.contains key) = false := by rw [he]; rfl
              go_wp2_with (refine wpList_put_key w4 rfl _ _ _ _ rfl 9 4 Tryz.underlying9 Tryz.underlying144 Tryz.underlying4 m j ks rfl HKM4.out (by have := HLN.out; simp only [maxLen]; omega) key rfl rfl (by have := HKY.out; simp only [maxLen]; omega) ?_; intro w5 hk5 hg5; have HK5 := Lib.hid hk5; have HG5 := Lib.hid hg5; have cw3 : w5.cell? ⟨q, 3, none⟩ = some (.slice Ak kids.length ck) := (HNQ.out.grown hg5 (fun e => HQM.out (by injection e))).cell 3; clear hk5 hg5)
              have kne : ∀ x ∈ K' ++ K, x.1 ≠ m := fun x hx e => by
                rcases List.mem_append.1 hx with hx1 | hx1
                · obtain ⟨cs, E, he2⟩ := HNE.out x hx1
                  obtain ⟨ob, hob, hnm⟩ := HKM4.out.map
                  have h1 := (HBX.out.keep x (by simp [hx1])).1
                  rw [he2, e, hob] at h1
                  injection h1 with h1
                  exact hnm _ _ _ h1
                · exact HKM.out x hx1 e
              obtain ⟨o', hm5⟩ : ∃ o', BR g B w0 r' ((m, o') :: (K' ++ K)) w5 := HBX.out.toBR.mapped (m := m) (o := o) (by simp) (fun x hx => ⟨by rcases List.mem_append.1 hx with hx1 | hx1 <;> simp [hx1], kne x hx⟩) HG5.out HBm.out HK5.out
              have HM5 := Lib.hid hm5
              clear hm5 kne
              have hln := HLN.out
              go_roundg (ns.length - (j + 1))
              case measure => omega
              case rel =>
                refine ⟨j + 1, by omega, by rw [IntWalk.wrap64_in _ ⟨by omega, by omega⟩]; rfl, Lib.hid ⟨key :: ks, r', o', HM5.out.less (fun x hx => by rcases List.mem_cons.1 hx with h | h <;> simp [h]), HK5.out, HFM.out, fun h => (H4.out h).trans (HST.out h), ?_, HRI.out.le (by have := HTS.out; simp only [Nd.size] at this; omega)⟩⟩
                rw [H5.out]
                exact readN_leaf HQ'.out hb hk
            | false =>
              rw [he] at HE0
              cases hc : ks.contains key with
              | true =>
                have hk : (!key.isEmpty && ks.contains key) = true := by rw [he, hc]; rfl
                go_wp2_with (refine wpList_unguard (by rfl) (wpList_look_key w4 rfl _ _ _ rfl 9 4 Tryz.underlying9 Tryz.underlying144 Tryz.underlying4 rfl m j ks rfl HKM4.out key rfl (by have := HKY.out; simp only [maxLen]; omega) ?_); rw [hc])
                go_ret2
                exact ⟨r', some (line, 4), by rw [H5.out]; exact readN_dup HQ'.out hb hk, rfl, HBX.out.toBR.less (fun x hx => by simp [hx]), fun h => (H4.out h).trans (HST.out h)⟩
              | false =>
                have hk : (!key.isEmpty && ks.contains key) = false := by rw [he, hc]; rfl
                go_wp2_with (first | (refine wpList_unguard (by rfl) (wpList_look_key w4 rfl _ _ _ rfl 9 4 Tryz.underlying9 Tryz.underlying144 Tryz.underlying4 rfl m j ks rfl HKM4.out key rfl (by have := HKY.out; simp only [maxLen]; omega) ?_); rw [hc]) | (refine wpList_put_key w4 rfl _ _ _ _ rfl 9 4 Tryz.underlying9 Tryz.underlying144 Tryz.underlying4 m j ks rfl HKM4.out (by have := HLN.out; simp only [maxLen]; omega) key rfl rfl (by have := HKY.out; simp only [maxLen]; omega) ?_; intro w5 hk5 hg5; have HK5 := Lib.hid hk5; have HG5 := Lib.hid hg5; have cw3 : w5.cell? ⟨q, 3, none⟩ = some (.slice Ak kids.length ck) := (HNQ.out.grown hg5 (fun e => HQM.out (by injection e))).cell 3; clear hk5 hg5))
                have kne : ∀ x ∈ K' ++ K, x.1 ≠ m := fun x hx e => by
                  rcases List.mem_append.1 hx with hx1 | hx1
                  · obtain ⟨cs, E, he2⟩ := HNE.out x hx1
                    obtain ⟨ob, hob, hnm⟩ := HKM4.out.map
                    have h1 := (HBX.out.keep x (by simp [hx1])).1
                    rw [he2, e, hob] at h1
                    injection h1 with h1
                    exact hnm _ _ _ h1
                  · exact HKM.out x hx1 e
                obtain ⟨o', hm5⟩ : ∃ o', BR g B w0 r' ((m, o') :: (K' ++ K)) w5 := HBX.out.toBR.mapped (m := m) (o := o) (by simp) (fun x hx => ⟨by rcases List.mem_append.1 hx with hx1 | hx1 <;> simp [hx1], kne x hx⟩) HG5.out HBm.out HK5.out
                have HM5 := Lib.hid hm5
                clear hm5 kne
                have hln := HLN.out
                go_roundg (ns.length - (j + 1))
                case measure => omega
                case rel =>
                  refine ⟨j + 1, by omega, by rw [IntWalk.wrap64_in _ ⟨by omega, by omega⟩]; rfl, Lib.hid ⟨key :: ks, r', o', HM5.out.less (fun x hx => by rcases List.mem_cons.1 hx with h | h <;> simp [h]), HK5.out, HFM.out, fun h => (H4.out h).trans (HST.out h), ?_, HRI.out.le (by have := HTS.out; simp only [Nd.size] at this; omega)⟩⟩
                  rw [H5.out]
                  exact readN_leaf HQ'.out hb hk
        | some h =>
          obtain ⟨F1, pre1, cap1, rfl⟩ := HIN.out.2.2.func
          have fn1 := form_ne1 F1 pre1 cap1
          have fe1 := form_eq1 F1 pre1 cap1
          have HIO : Hid (h ≠ .top ∧ f.outer = true) := Lib.hid ⟨HIN.out.1, HIN.out.2.1⟩
          have HIV := Lib.hid HIN.out.2.2
          clear HIN
          cases blk with
          | false =>
            go_wp2_with fail
            go_ret2
            exact ⟨r', some (line, 2), by rw [H5.out]; exact readN_bad HQ'.out (by rw [hd]; rfl), rfl, HBX.out.toBR.less (fun x hx => by simp [hx]), fun h => (H4.out h).trans (HST.out h)⟩
          | true =>
            have hb : (!doneB p' || true != (some h).isSome) = false := by rw [hd]; rfl
            have HE0 := key_empty key
            unfold strV
            cases he : key.isEmpty with
            | true =>
              rw [he] at HE0
              have hk : (!key.isEmpty && ks.contains key) = false := by rw [he]; rfl
              go_wp2_with (refine wpList_put_key w4 rfl _ _ _ _ rfl 9 4 Tryz.underlying9 Tryz.underlying144 Tryz.underlying4 m j ks rfl HKM4.out (by have := HLN.out; simp only [maxLen]; omega) key rfl rfl (by have := HKY.out; simp only [maxLen]; omega) ?_; intro w5 hk5 hg5; have HK5 := Lib.hid hk5; have HG5 := Lib.hid hg5; have cw3 : w5.cell? ⟨q, 3, none⟩ = some (.slice Ak kids.length ck) := (HNQ.out.grown hg5 (fun e => HQM.out (by injection e))).cell 3; clear hk5 hg5)
              have kne : ∀ x ∈ K' ++ K, x.1 ≠ m := fun x hx e => by
                rcases List.mem_append.1 hx with hx1 | hx1
                · obtain ⟨cs, E, he2⟩ := HNE.out x hx1
                  obtain ⟨ob, hob, hnm⟩ := HKM4.out.map
                  have h1 := (HBX.out.keep x (by simp [hx1])).1
                  rw [he2, e, hob] at h1
                  injection h1 with h1
                  exact hnm _ _ _ h1
                · exact HKM.out x hx1 e
              obtain ⟨o', hm5⟩ : ∃ o', BR g B w0 r' ((m, o') :: (K' ++ K)) w5 := HBX.out.toBR.mapped (m := m) (o := o) (by simp) (fun x hx => ⟨by rcases List.mem_append.1 hx with hx1 | hx1 <;> simp [hx1], kne x hx⟩) HG5.out HBm.out HK5.out
              have HM5 := Lib.hid hm5
              clear hm5 kne
              have hsz' : sizeL kids < n := by have := HGS.out; have := HSZ.out; simp only [Nd.size] at *; omega
              have HRC := Lib.hid (HIH.out (sizeL kids) hsz' h kids (.slice Ak kids.length ck) (.func (.func F1) pre1 cap1) g B (k + sizeL (ns.take j) + 1) w0 w5 r' ((m, o') :: (K' ++ K)) (Nat.le_refl _) HM5.out (HIV.out.mono (fun x hx => by simp [hx])) HKD.out HOK.2.2 HE.out HRI.out (by have := HGS.out; have := HK.out; simp only [Nd.size] at *; omega))
              refine HRC.out.mono ?_
              rintro e w6 ⟨r2, res, hq2, rfl, hbr2, hst2⟩
              have HBR2 := Lib.hid hbr2
              have HST2 := Lib.hid (hst2 HIO.out.1)
              have HQ2 := Lib.hid hq2
              clear hbr2 hst2 hq2 HRC
              cases res with
              | some e' =>
                obtain ⟨le, ce⟩ := e'
                have he2 : ce = 2 ∨ ce = 4 := readN_two h kids [] r'.plain (le, ce) (by rw [HQ2.out])
                rw [show resL (some (le, ce)) = le from rfl, show resE (some (le, ce)) = ce from rfl]
                have hz : (ce != 0) = true := by rcases he2 with rfl | rfl <;> rfl
                go_wp2_with fail
                go_ret2
                exact ⟨r2, some (le, ce), by rw [H5.out]; exact readN_inbad HQ'.out hb hk HQ2.out, rfl, HBR2.out.less (fun x hx => by simp [hx]), fun h => ((H4.out h).trans (HST.out h)).trans HST2.out⟩
              | none =>
                rw [show resL none = 0 from rfl, show resE none = 0 from rfl]
                go_wp2_with fail
                have hln := HLN.out
                go_roundg (ns.length - (j + 1))
                case measure => omega
                case rel =>
                  refine ⟨j + 1, by omega, by rw [IntWalk.wrap64_in _ ⟨by omega, by omega⟩]; rfl, Lib.hid ⟨key :: ks, r2, o', HBR2.out.less (fun x hx => by rcases List.mem_cons.1 hx with h | h <;> simp [h]), HK5.out.blk ((HBR2.out.keep (m, o') (by simp)).1.trans (HM5.out.keep (m, o') (by simp)).1.symm), HFM.out.stay HIO.out.2 HST2.out (fun _ h => h), fun h => ((H4.out h).trans (HST.out h)).trans HST2.out, ?_, ?_⟩⟩
                  · rw [H5.out]
                    exact readN_in HQ'.out hb hk HQ2.out
                  · have h1 := readN_ok h kids [] r'.plain _ HRI.out
                    rw [HQ2.out] at h1
                    exact h1.le (by have := HTS.out; simp only [Nd.size] at this; omega)
            | false =>
              rw [he] at HE0
              cases hc : ks.contains key with
              | true =>
                have hk : (!key.isEmpty && ks.contains key) = true := by rw [he, hc]; rfl
                go_wp2_with (refine wpList_unguard (by rfl) (wpList_look_key w4 rfl _ _ _ rfl 9 4 Tryz.underlying9 Tryz.underlying144 Tryz.underlying4 rfl m j ks rfl HKM4.out key rfl (by have := HKY.out; simp only [maxLen]; omega) ?_); rw [hc])
                go_ret2
                exact ⟨r', some (line, 4), by rw [H5.out]; exact readN_dup HQ'.out hb hk, rfl, HBX.out.toBR.less (fun x hx => by simp [hx]), fun h => (H4.out h).trans (HST.out h)⟩
              | false =>
                have hk : (!key.isEmpty && ks.contains key) = false := by rw [he, hc]; rfl
                go_wp2_with (first | (refine wpList_unguard (by rfl) (wpList_look_key w4 rfl _ _ _ rfl 9 4 Tryz.underlying9 Tryz.underlying144 Tryz.underlying4 rfl m j ks rfl HKM4.out key rfl (by have := HKY.out; simp only [maxLen]; omega) ?_); rw [hc]) | (refine wpList_put_key w4 rfl _ _ _ _ rfl 9 4 Tryz.underlying9 Tryz.underlying144 Tryz.underlying4 m j ks rfl HKM4.out (by have := HLN.out; simp only [maxLen]; omega) key rfl rfl (by have := HKY.out; simp only [maxLen]; omega) ?_; intro w5 hk5 hg5; have HK5 := Lib.hid hk5; have HG5 := Lib.hid hg5; have cw3 : w5.cell? ⟨q, 3, none⟩ = some (.slice Ak kids.length ck) := (HNQ.out.grown hg5 (fun e => HQM.out (by injection e))).cell 3; clear hk5 hg5))
                have kne : ∀ x ∈ K' ++ K, x.1 ≠ m := fun x hx e => by
                  rcases List.mem_append.1 hx with hx1 | hx1
                  · obtain ⟨cs, E, he2⟩ := HNE.out x hx1
                    obtain ⟨ob, hob, hnm⟩ := HKM4.out.map
                    have h1 := (HBX.out.keep x (by simp [hx1])).1
                    rw [he2, e, hob] at h1
                    injection h1 with h1
                    exact hnm _ _ _ h1
                  · exact HKM.out x hx1 e
                obtain ⟨o', hm5⟩ : ∃ o', BR g B w0 r' ((m, o') :: (K' ++ K)) w5 := HBX.out.toBR.mapped (m := m) (o := o) (by simp) (fun x hx => ⟨by rcases List.mem_append.1 hx with hx1 | hx1 <;> simp [hx1], kne x hx⟩) HG5.out HBm.out HK5.out
                have HM5 := Lib.hid hm5
                clear hm5 kne
                have hsz' : sizeL kids < n := by have := HGS.out; have := HSZ.out; simp only [Nd.size] at *; omega
                have HRC := Lib.hid (HIH.out (sizeL kids) hsz' h kids (.slice Ak kids.length ck) (.func (.func F1) pre1 cap1) g B (k + sizeL (ns.take j) + 1) w0 w5 r' ((m, o') :: (K' ++ K)) (Nat.le_refl _) HM5.out (HIV.out.mono (fun x hx => by simp [hx])) HKD.out HOK.2.2 HE.out HRI.out (by have := HGS.out; have := HK.out; simp only [Nd.size] at *; omega))
                refine HRC.out.mono ?_
                rintro e w6 ⟨r2, res, hq2, rfl, hbr2, hst2⟩
                have HBR2 := Lib.hid hbr2
                have HST2 := Lib.hid (hst2 HIO.out.1)
                have HQ2 := Lib.hid hq2
                clear hbr2 hst2 hq2 HRC
                cases res with
                | some e' =>
                  obtain ⟨le, ce⟩ := e'
                  have he2 : ce = 2 ∨ ce = 4 := readN_two h kids [] r'.plain (le, ce) (by rw [HQ2.out])
                  rw [show resL (some (le, ce)) = le from rfl, show resE (some (le, ce)) = ce from rfl]
                  have hz : (ce != 0) = true := by rcases he2 with rfl | rfl <;> rfl
                  go_wp2_with fail
                  go_ret2
                  exact ⟨r2, some (le, ce), by rw [H5.out]; exact readN_inbad HQ'.out hb hk HQ2.out, rfl, HBR2.out.less (fun x hx => by simp [hx]), fun h => ((H4.out h).trans (HST.out h)).trans HST2.out⟩
                | none =>
                  rw [show resL none = 0 from rfl, show resE none = 0 from rfl]
                  go_wp2_with fail
                  have hln := HLN.out
                  go_roundg (ns.length - (j + 1))
                  case measure => omega
                  case rel =>
                    refine ⟨j + 1, by omega, by rw [IntWalk.wrap64_in _ ⟨by omega, by omega⟩]; rfl, Lib.hid ⟨key :: ks, r2, o', HBR2.out.less (fun x hx => by rcases List.mem_cons.1 hx with h | h <;> simp [h]), HK5.out.blk ((HBR2.out.keep (m, o') (by simp)).1.trans (HM5.out.keep (m, o') (by simp)).1.symm), HFM.out.stay HIO.out.2 HST2.out (fun _ h => h), fun h => ((H4.out h).trans (HST.out h)).trans HST2.out, ?_, ?_⟩⟩
                    · rw [H5.out]
                      exact readN_in HQ'.out hb hk HQ2.out
                    · have h1 := readN_ok h kids [] r'.plain _ HRI.out
                      rw [HQ2.out] at h1
                      exact h1.le (by have := HTS.out; simp only [Nd.size] at this; omega)
theorem read_all (FC : ∀ f, FormC f) : ∀ n, ReadC n := fun n => by
  induction n using Nat.strongRecOn with
  | ind n ih => exact read_step FC n ih
end Go.Proofs.YtmddfkpkddemnaaGreatDoor
namespace Go.Proofs.YtmddfkpkddemnaaGreatDoor
open Go.RowKit
abbrev NodC (N : Nat) : Prop := ∀ (c B m : Nat) (lines : Int) (x : Tk) (t : List Tk) (w : World), t.length + 1 ≤ N → t.length + 1 ≤ 65536 → 2 * (t.length + 1) + 1 ≤ m → Cu c B lines (x :: t) w → Calls Tryz.prog 71 #[.pointer (some ⟨c, 0, none⟩)] w (NodeP c B lines (nodeN lines m x.1 (x :: t) []) w)
abbrev SeqC (N : Nat) : Prop := ∀ (c B m : Nat) (lines : Int) (inner : Bool) (t : List Tk) (w : World), t.length ≤ N → t.length ≤ 65536 → 2 * t.length + 2 ≤ m → Cu c B lines t w → Calls Tryz.prog 36 #[.pointer (some ⟨c, 0, none⟩), .bool inner] w (SeqP c B lines (seqN lines m inner t []) w)
/-- Ahead of a round of sequence. -/
def SqI (c B : Nat) (lines : Int) (inner : Bool) (m : Nat) (t : List Tk) (w : World) (v : Value) (t' : List Tk) (wr : World) : Prop :=
  ∃ (m' : Nat) (ns : List Nd) (css : List Value), seqN lines m inner t [] = seqN lines m' inner t' ns ∧ 2 * t'.length + 2 ≤ m' ∧ Cu c B lines t' wr ∧ w.grownBy wr (some c) ∧ wr.ownsRow w.heap.size 140 4 v ns.length css ∧ NdsC wr (fun k => w.heap.size ≤ k ∧ v.ownBlock ≠ some k) ns css ∧ t'.length + ns.length ≤ t.length
theorem grown_trans {w w1 w2 : World} {r : Option Nat} (h : w.grownBy w1 r) (h' : w1.grownBy w2 r) : w.grownBy w2 r :=
  ⟨h'.os.trans h.os, h'.tape.trans h.tape, h'.output.trans h.output, Nat.le_trans h.size h'.size, fun k hk hne => (h'.block k (Nat.lt_of_lt_of_le hk h.size) hne).trans (h.block k hk hne)⟩
theorem own_form4 {w : World} {B : Nat} {T : TypeId} {v : Value} {n : Nat} {css : List Value} (h : w.ownsRow B T 4 v n css) : ∃ A cap, v = .slice A n cap := by
  rcases h.2 with ⟨e, h0⟩ | ⟨g, cap, cur, e, -⟩
  · exact ⟨none, 0, by rw [h0]; exact e⟩
  · exact ⟨_, _, e⟩
theorem own_base {w : World} {B : Nat} {T : TypeId} {v : Value} {n : Nat} {css : List Value} (h : w.ownsRow B T 4 v n css) {k : Nat} (hk : v.ownBlock = some k) : B ≤ k ∧ k < w.heap.size := by
  rcases h.2 with ⟨e, h0⟩ | ⟨g, cap, cur, e, h2, h3, -⟩
  · rw [e] at hk; cases hk
  · rw [e] at hk
    injection hk with hk
    subst hk
    exact ⟨h2, blk_lt h3⟩
set_option maxRecDepth 8000 in
set_option maxHeartbeats 8000000 in
theorem seq_step (N : Nat) (NC : NodC N) : SeqC N := by
  intro c B m lines inner t w hN h6 hm h
  have H := Lib.hid h
  have HN := Lib.hid NC
  have HH := Lib.hid (show t.length ≤ N ∧ t.length ≤ 65536 ∧ 2 * t.length + 2 ≤ m from ⟨hN, h6, hm⟩)
  have hcl := h.lt
  clear h NC hN h6 hm
  go_enter Tryz.func36, Tryz.ntmps36
  go_wp2_with fail
  go_loopg [7] t.length (fun gh v wr => ∃ t' : List Tk, gh = t'.length ∧ Hid (SqI c B lines inner m t w v t' wr))
  case atStart => exact ⟨t, rfl, Lib.hid ⟨m, [], [], rfl, HH.out.2.2, H.out, World.grownBy.refl _ _, World.ownsRow_nil _ _ _ _, by rw [NdsC], by simp⟩⟩
  case round =>
    obtain ⟨t', rfl, HI⟩ := hrel
    obtain ⟨m', ns, css, e1, e2, e3, e4, e5, e6, e7⟩ := HI.out
    obtain ⟨A0, k0, rfl⟩ := own_form4 e5
    have E1 := Lib.hid e1
    have E3 := Lib.hid e3
    have E4 := Lib.hid e4
    have E5 := Lib.hid e5
    have E6 := Lib.hid e6
    clear e1 e3 e4 e5 e6 HI
    cases t' with
    | nil =>
      obtain ⟨A, p, c0⟩ := E3.out.rest0
      have cl := E3.out.linesC
      obtain ⟨n', rfl⟩ : ∃ n', m' = n' + 1 := ⟨m' - 1, by omega⟩
      have ES := E1.out
      rw [seqN] at ES
      have HES := Lib.hid ES
      clear ES
      rw [List.length_nil] at c0
      cases inner with
      | true =>
        go_wp2_with fail
        go_region_law (fail)
        all_goals
          go_wp2_with fail
          go_ret3
          refine ⟨⟨E4.out.os, E4.out.tape, E4.out.output, E4.out.size, E4.out.block⟩, ?_⟩
          rw [HES.out]
          rfl
      | false =>
        go_wp2_with fail
        go_ret3
        refine ⟨E4.out, ?_⟩
        rw [HES.out]
        exact ⟨_, rfl, NdV.own E5.out (NdsC.frame (fun k hk _ => ⟨hk.1, rfl⟩) (Nat.le_refl _) _ _ E6.out) (fun k hk => (own_base E5.out hk).1), E3.out⟩
    | cons y r =>
      obtain ⟨g, o, p, hv, c1, c2, hr, hp, hmx, -⟩ := E3.out.popped
      have c0 : wr.cell? ⟨c, 0, none⟩ = some (.slice (some ⟨g, o, none⟩) (r.length + 1) p) := by rw [Lib.cell_of_heap hv]; rfl
      obtain ⟨n', rfl⟩ : ∃ n', m' = n' + 1 := ⟨m' - 1, by omega⟩
      have ES := E1.out
      rw [seqN] at ES
      have HES := Lib.hid ES
      have hi : (0 : Int) < (r.length : Int) + 1 := by omega
      have q1 : ((str y.2).toList == [125]) = (y.2 == [125]) := by rw [toList_str]
      rw [List.length_cons] at e2 e7
      unfold strV at c2
      unfold maxLen at hmx
      clear ES hr hv
      cases hb : (inner && y.2 == [125]) with
      | true =>
        have hin : inner = true := by revert hb; cases inner <;> simp
        have hy : (y.2 == [125]) = true := by revert hb; cases inner <;> simp
        subst hin
        rw [hy] at q1
        have HB := Lib.hid hb
        clear hb hy
        go_wp2_with fail
        refine (cnext_any E3.out).mono ?_
        rintro e w2 ⟨rfl, h2, k2⟩
        have H2 := Lib.hid h2
        have K2 := Lib.hid k2
        clear h2 k2
        go_wp2_with fail
        go_ret3
        refine ⟨grown_trans E4.out K2.out, ?_⟩
        rw [HES.out, if_pos HB.out]
        have hN := NdV.own E5.out (NdsC.frame (S' := (w.heap.size ≤ ·)) (fun k hk _ => ⟨hk.1, rfl⟩) (Nat.le_refl _) _ _ E6.out) (fun k hk => (own_base E5.out hk).1)
        exact ⟨_, rfl, hN.frame (fun k hk hl => ⟨hk, K2.out.block k hl (fun e => by injection e with e; omega)⟩) K2.out.size, H2.out⟩
      | false =>
        rw [if_neg (by rw [hb]; decide)] at HES
        obtain ⟨hL1, hL2, hL3⟩ := HH.out
        have HX := Lib.hid (HN.out c B n' lines y r wr (by omega) (by omega) (by omega) E3.out)
        have hW : inner = false ∨ inner = true ∧ (y.2 == [125]) = false := by revert hb; cases inner <;> simp
        clear hb
        rcases hW with rfl | ⟨rfl, hy⟩
        case' inr => rw [hy] at q1
        all_goals
          go_wp2_with fail
          refine HX.out.mono ?_
          rintro e w2 ⟨hg2, hm2⟩
          have K2 := Lib.hid (grown_trans E4.out hg2)
          have G2 := Lib.hid hg2
          clear hg2 c0 c1 c2 HX
          generalize hnd : nodeN lines n' y.1 (y :: r) [] = nd at hm2
          rw [hnd] at HES
          have HND := Lib.hid hnd
          clear hnd
          cases nd with
          | error l =>
            obtain rfl : e = _ := hm2
            go_wp2_with fail
            go_ret3
            refine ⟨⟨K2.out.os, K2.out.tape, K2.out.output, Nat.le_trans K2.out.size (by simp), fun k hk hne => (Below.heap_alloc _ _ k (Nat.lt_of_lt_of_le hk K2.out.size)).trans (K2.out.block k hk hne)⟩, ?_⟩
            rw [HES.out]
            rfl
          | ok a =>
            obtain ⟨n1, r1⟩ := a
            obtain ⟨cs, rfl, hn1, hc1⟩ := hm2
            obtain ⟨line, ws, blk, kids⟩ := n1
            have HN1 := Lib.hid hn1
            obtain ⟨wv, kv, ecs, hwd, hkd⟩ := NdC.iff.1 hn1
            obtain rfl : cs = #[.int .i64 line, wv, .bool blk, kv] := Array.toList_inj.1 (by rw [ecs])
            have H2 := Lib.hid hc1
            obtain ⟨Aw, cw, rfl, -⟩ := id hwd
            obtain ⟨Ak, ck, rfl, -⟩ := id hkd
            clear hn1 hc1 ecs hwd hkd
            go_upto_region 7 with (fail)
            obtain ⟨i0, z0, hi0, hz0, hk0, hs0, hb0⟩ := info_cells Tryz.infoNode
            have Hi0 := Lib.hid hi0
            have Hz0 := Lib.hid hz0
            have Hk0 := Lib.hid hk0
            have Hs0 := Lib.hid hs0
            have Hb0 := Lib.hid hb0
            clear hi0 hz0 hk0 hs0 hb0
            have HC3 := Lib.hid (HasC.new w2 140 #[.int .i64 line, .slice Aw ws.length cw, .bool blk, .slice Ak kids.length ck])
            have HB3 := Lib.hid ((Below.refl w2.heap.size w2).alloc (Nat.le_refl _) (.cells #[.int .i64 line, .slice Aw ws.length cw, .bool blk, .slice Ak kids.length ck] 140))
            change Code.wp _ _ _ _ (w2.alloc (.cells #[.int .i64 line, .slice Aw ws.length cw, .bool blk, .slice Ak kids.length ck] 140))
            generalize w2.alloc (.cells #[.int .i64 line, .slice Aw ws.length cw, .bool blk, .slice Ak kids.length ck] 140) = w3 at HC3 HB3 ⊢
            have x0 : w3.cell? ⟨w2.heap.size, 0, none⟩ = some (.int .i64 line) := HC3.out.cell 0
            have x1 : w3.cell? ⟨w2.heap.size, 1, none⟩ = some (.slice Aw ws.length cw) := HC3.out.cell 1
            have x2 : w3.cell? ⟨w2.heap.size, 2, none⟩ = some (.bool blk) := HC3.out.cell 2
            have x3 : w3.cell? ⟨w2.heap.size, 3, none⟩ = some (.slice Ak kids.length ck) := HC3.out.cell 3
            have R3 : w3.ownsRow w.heap.size 140 4 (.slice A0 ns.length k0) ns.length css := (E5.out.kept G2.out (.inr (fun e => by have := (own_base E5.out e).1; omega))).kept (grown_below (Nat.le_refl _) HB3.out none) (by
              cases hx : (Value.slice A0 ns.length k0).ownBlock with
              | none => exact .inl rfl
              | some k => exact .inr (by simp))
            have hsz2 := G2.out.size
            have hsz3 := HB3.out.size
            have hszr := E4.out.size
            have N3 : Hid (NdsC w3 (fun k => w.heap.size ≤ k ∧ (Value.slice A0 ns.length k0).ownBlock ≠ some k) ns css) := Lib.hid (NdsC.frame (fun k hk hl => ⟨hk, (HB3.out.block k (by omega)).trans (G2.out.block k hl (fun e => by injection e with e; have := hk.1; omega))⟩) (by omega) _ _ E6.out)
            have M3 : Hid (NdC w3 (fun k => w.heap.size ≤ k ∧ (Value.slice A0 ns.length k0).ownBlock ≠ some k) (.mk line ws blk kids) [.int .i64 line, .slice Aw ws.length cw, .bool blk, .slice Ak kids.length ck]) := Lib.hid (NdC.frame (fun k hk hl => ⟨⟨by omega, fun e => by have := (own_base E5.out e).2; omega⟩, HB3.out.block k hl⟩) (by omega) _ _ HN1.out)
            have HR3 := Lib.hid R3
            have hlen := (seq_len lines n').2 y.1 (y :: r) [] _ r1 HND.out
            rw [List.length_cons] at hlen
            clear R3 HC3
            go_wp2_with (at_builtin; refine wpList_append1h w3 rfl _ _ _ rfl w.heap.size _ i0 _ _ _ Tryz.underlying85 Hi0.out Hz0.out Hs0.out Hb0.out Hk0.out (by decide) (.slice A0 ns.length k0) ns.length _ rfl HR3.out #[.int .i64 line, .slice Aw ws.length cw, .bool blk, .slice Ak kids.length ck] rfl rfl (fun u hu => by simp only [List.mem_cons, List.not_mem_nil, or_false] at hu; rcases hu with rfl | rfl | rfl | rfl <;> rfl) (by omega) (by decide) (by omega) ?_; intro v5 w5 ho5 hg5 hat5)
            have hb5 : ∀ k, (Value.slice A0 ns.length k0).ownBlock = some k → w.heap.size ≤ k ∧ k < wr.heap.size := fun k hk => own_base E5.out hk
            go_roundg r1.length
            case measure => omega
            case rel =>
              have hcB := E3.out.1
              refine ⟨r1, rfl, Lib.hid ⟨n', ns ++ [.mk line ws blk kids], css ++ [.int .i64 line, .slice Aw ws.length cw, .bool blk, .slice Ak kids.length ck], HES.out, by omega, (H2.out.keep HB3.out).other hg5 (fun k hk => ⟨by have := (hb5 k hk).1; omega, by have := (hb5 k hk).1; omega⟩), ?_, by simpa using ho5, NdsC.snoc (NdsC.frame (fun k hk hl => ⟨⟨hk.1, fun e => ?_⟩, hg5.block k hl (fun e => hk.2 e.symm)⟩) hg5.size _ _ N3.out) (NdC.frame (fun k hk hl => ⟨⟨hk.1, fun e => ?_⟩, hg5.block k hl (fun e => hk.2 e.symm)⟩) hg5.size _ _ M3.out), by simp only [List.length_append, List.length_cons, List.length_nil]; omega⟩⟩
              · refine ⟨hg5.os.trans (HB3.out.os.trans K2.out.os), hg5.tape.trans (HB3.out.tape.trans K2.out.tape), hg5.output.trans (HB3.out.output.trans K2.out.output), Nat.le_trans K2.out.size (Nat.le_trans hsz3 hg5.size), fun k hk hne => ?_⟩
                have hk2 := K2.out.size
                exact (hg5.block k (by omega) (fun e => by have := (hb5 k e.symm).1; omega)).trans ((HB3.out.block k (by omega)).trans (K2.out.block k hk hne))
              · rcases hat5 with q | q
                · exact hk.2 (q.symm.trans e)
                · rw [q] at e; injection e with e; omega
              · rcases hat5 with q | q
                · exact hk.2 (q.symm.trans e)
                · rw [q] at e; injection e with e; omega
end Go.Proofs.YtmddfkpkddemnaaGreatDoor
