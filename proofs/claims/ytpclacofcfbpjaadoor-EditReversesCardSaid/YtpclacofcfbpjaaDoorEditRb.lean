/- The plain law behind EditReverses. No condition. -/
import Derived.Test.YtpclacofcfbpjaaDoorEditRa
namespace Go.Proofs.YtpclacofcfbpjaaDoor
open Go.RowKit

theorem split_of_all : ∀ {ts : List (List UInt8)}, (∀ t ∈ ts, linesErr t = 0) → splitErr ts = 0 := by
  intro ts
  induction ts with
  | nil => intro _; rfl
  | cons a r ih =>
    intro h
    simp only [splitErr]
    rw [if_pos (h a (by simp))]
    exact ih (fun t ht => h t (by simp [ht]))
theorem reverse_core {ts : List (List UInt8)} {x b : Ed} {c : Nat} (h : applyErr ts [x] = 0) (hs : shortB ts = true) (ht : x.text.length ≤ 200) (hc : c < ts.length) (hx : x.cfg = c) (hb : b.cfg = c)
    (hchk : checkIn (lnOf (linesOf ts[c]) [x] c) [] b = 0) (heq : lnOf (lnOf (linesOf ts[c]) [x] c) [b] c = linesOf ts[c]) : applyErr (applyOf ts [x]) [b] = 0 ∧ applyOf (applyOf ts [x]) [b] = applyOf ts [] := by
  obtain ⟨h0, _, _⟩ := apply_zero h
  have h1 := apply_nil h0
  have hlen := out_len h
  have hget : ∀ i (hi : i < ts.length), (applyOf ts [x])[i]'(by rw [hlen]; exact hi) = rewriteOf (linesOf ts[i]) [x] i := by
    intro i hi
    have := out_get h hi
    rw [List.getElem?_eq_getElem (by rw [hlen]; exact hi)] at this
    injection this
  have hed : ∀ i (hi : i < ts.length), linesErr (rewriteOf (linesOf ts[i]) [x] i) = 0 ∧ linesOf (rewriteOf (linesOf ts[i]) [x] i) = lnOf (linesOf ts[i]) [x] i := by
    intro i hi
    have he := split_zero h0 ts[i] (List.getElem_mem hi)
    refine edited_lines he (short_1500 hs hi he) (by simp) (fun y hy => ?_) (print_of h hi)
    rw [List.mem_singleton.1 hy]; exact ht
  have hsp : splitErr (applyOf ts [x]) = 0 := split_of_all (fun t htm => by
    obtain ⟨i, hi, rfl⟩ := List.getElem_of_mem htm
    rw [hlen] at hi
    rw [hget i hi]
    exact (hed i hi).1)
  have hso : ∀ i (hi : i < ts.length), (splitOf (applyOf ts [x]))[i]? = some (lnOf (linesOf ts[i]) [x] i) := by
    intro i hi
    unfold splitOf
    rw [List.getElem?_map, List.getElem?_eq_getElem (by rw [hlen]; exact hi), hget i hi]
    simp only [Option.map_some, (hed i hi).2]
  have hck : checkErr (splitOf (applyOf ts [x])) [] b = 0 := by
    unfold checkErr
    rw [hb, if_neg (by omega)]
    simp only [Int.toNat_natCast, hso c hc]
    exact hchk
  have hap : applyErr (applyOf ts [x]) [b] = 0 := by
    unfold applyErr
    rw [if_pos hsp, if_neg (by simp)]
    simp only [checksErr, hck, if_true]
  refine ⟨hap, ?_⟩
  apply List.ext_getElem?
  intro i
  rcases Nat.lt_or_ge i ts.length with hi | hi
  · rw [out_get h1 hi]
    have hi2 : i < (applyOf ts [x]).length := by rw [hlen]; exact hi
    rw [out_get hap hi2, hget i hi, (hed i hi).2]
    congr 1
    rw [rewrite_join, rewrite_join, ln_nil]
    congr 1
    rcases Classical.em (i = c) with e | e
    · subst e; exact heq
    · rw [one_other (linesOf ts[i]) x i (by rw [hx]; omega), one_other (linesOf ts[i]) b i (by rw [hb]; omega)]
  · rw [List.getElem?_eq_none (by rw [out_len hap, hlen]; exact hi), List.getElem?_eq_none (by rw [out_len h1]; exact hi)]
/-- A line that was inserted and deleted again. -/
theorem reverse_ins {ts : List (List UInt8)} {c : Nat} {l : Int} {t : List UInt8} (h : applyErr ts [⟨c, l, 3, t⟩] = 0) (hs : shortB ts = true) (ht : t.length ≤ 200) (hc : c < ts.length) :
    applyErr (applyOf ts [⟨c, l, 3, t⟩]) [⟨c, l, 1, []⟩] = 0 ∧ applyOf (applyOf ts [⟨c, l, 3, t⟩]) [⟨c, l, 1, []⟩] = applyOf ts [] := by
  have ho := okay_of h hc 0 (by simp) rfl
  have h1 : (1 : Int) ≤ l := ho.lo
  have h2 : l ≤ (linesOf ts[c]).length + 1 := by have := ho.hi; unfold lastLine at this; simpa using this
  obtain ⟨k, rfl⟩ : ∃ k : Nat, l = (k : Int) + 1 := ⟨(l - 1).toNat, by omega⟩
  have hk : k ≤ (linesOf ts[c]).length := by omega
  have e := one_ins (linesOf ts[c]) k c t hk
  have hl2 : ((linesOf ts[c]).take k ++ [t] ++ (linesOf ts[c]).drop k).length = (linesOf ts[c]).length + 1 := by simp; omega
  refine reverse_core h hs ht hc rfl rfl ?_ ?_
  · rw [e]
    unfold checkIn lastLine
    rw [if_neg (by simp), if_neg (by simp), if_neg (by rw [if_neg (by simp), hl2]; simp [printB]; omega), if_neg (by simp), if_neg (by simp)]
    rfl
  · rw [e, one_del _ k c (by rw [hl2]; omega)]
    have a1 : ((linesOf ts[c]).take k).length = k := by simp; omega
    rw [List.append_assoc, List.take_append_of_le_length (by omega), List.take_of_length_le (by omega), List.drop_append, a1, show k + 1 - k = 1 from by omega, List.drop_eq_nil_of_le (by omega)]
    simp
theorem opp_pd (ls : List (List UInt8)) {x : List UInt8} (h : x = wPermit ∨ x = wDeny) : (oppOf ls x = wPermit ∨ oppOf ls x = wDeny) ∧ ∀ ls', oppOf ls' (oppOf ls x) = x := by
  rcases h with rfl | rfl
  · exact ⟨.inr rfl, fun _ => rfl⟩
  · exact ⟨.inl rfl, fun _ => rfl⟩
theorem pd_facts {x : List UInt8} (h : x = wPermit ∨ x = wDeny) : x ≠ [] ∧ x.all nbB = true ∧ noZero x = true ∧ actB (bareOf x) = true ∧ bareOf x = x := by
  rcases h with rfl | rfl
  · decide
  · decide
theorem flip_twice {ls : List (List UInt8)} {k : Nat} {s r : List UInt8} (hk : ls[k]? = some s) (hp : printB s = true) (hf : flipI ls k = some r) {f : List UInt8} (hm : f ∈ fieldsOf 0 s) (hpd : f = wPermit ∨ f = wDeny) {ls2 : List (List UInt8)} (hk2 : ls2[k]? = some r) : flipI ls2 k = some s := by
  obtain ⟨s', hs', p, x, hact, rfl⟩ := flip_at hf
  rw [hk] at hs'
  injection hs' with hs'
  subst hs'
  unfold fieldsOf at hm
  rw [fields_starts s.length s 0 (Nat.le_refl _)] at hm
  obtain ⟨⟨q, f'⟩, hq, hqf⟩ := List.mem_map.1 hm
  simp only at hqf
  subst hqf
  obtain ⟨pre, post, e1, e2, ⟨e3, _⟩, e5, e6, e7⟩ := starts_mem s 0 true q f' hq
  rw [Nat.zero_add] at e2
  obtain ⟨f1, f2, f3, f4, f5⟩ := pd_facts hpd
  have ho := opp_pd (ls.take (k + 1)) hpd
  obtain ⟨o1, o2, o3, o4, o5⟩ := pd_facts ho.1
  subst e1
  obtain ⟨a1, a2⟩ := acts_swap (x := f') (y := oppOf (ls.take (k + 1)) f') e3 e5 (noZero_of hp) f1 f2 o1 o2 o3 f4 o4 o5 hact
  injection a2 with a3 a4
  rw [f5] at a4
  subst a3 a4
  have er : (pre ++ x ++ post).take pre.length ++ oppOf (ls.take (k + 1)) x ++ (pre ++ x ++ post).drop (pre.length + x.length) = pre ++ oppOf (ls.take (k + 1)) x ++ post := by
    rw [List.append_assoc pre x post, List.take_left, ← List.append_assoc pre x post, ← List.length_append, List.drop_left]
  rw [er] at hk2
  unfold flipI
  rw [if_neg (by omega)]
  simp only [Int.toNat_natCast]
  unfold flipOf
  rw [hk2]
  simp only
  rw [a1]
  unfold flipLine
  simp only
  rw [ho.2, List.append_assoc pre _ post, List.take_left, ← List.append_assoc pre _ post, ← List.length_append, List.drop_left]
/-- A line with permit or deny that was flipped twice. -/
theorem reverse_flp {ts : List (List UInt8)} {c : Nat} {l : Int} {t : List UInt8} (h : applyErr ts [⟨c, l, 2, t⟩] = 0) (hs : shortB ts = true) (ht : t.length ≤ 200) (hc : c < ts.length) {s f : List UInt8} (hls : (linesOf ts[c])[(l - 1).toNat]? = some s) (hm : f ∈ fieldsOf 0 s) (hpd : f = wPermit ∨ f = wDeny) :
    applyErr (applyOf ts [⟨c, l, 2, t⟩]) [⟨c, l, 2, t⟩] = 0 ∧ applyOf (applyOf ts [⟨c, l, 2, t⟩]) [⟨c, l, 2, t⟩] = applyOf ts [] := by
  have ho := okay_of h hc 0 (by simp) rfl
  have h1 : (1 : Int) ≤ l := ho.lo
  have h2 : l ≤ (linesOf ts[c]).length := by have := ho.hi; unfold lastLine at this; simpa using this
  have ht0 : t = [] := ho.empty (by simp)
  obtain ⟨k, rfl⟩ : ∃ k : Nat, l = (k : Int) + 1 := ⟨(l - 1).toNat, by omega⟩
  have hk : k < (linesOf ts[c]).length := by omega
  rw [show ((k : Int) + 1 - 1).toNat = k from by omega] at hls
  have hfl : ¬ flipI (linesOf ts[c]) ((k : Int) + 1 - 1) = none := ho.flp rfl
  rw [show (k : Int) + 1 - 1 = k from by omega] at hfl
  obtain ⟨r, hr⟩ : ∃ r, flipI (linesOf ts[c]) k = some r := by
    cases hq : flipI (linesOf ts[c]) k with
    | none => exact absurd hq hfl
    | some r => exact ⟨r, rfl⟩
  have e := one_flp (linesOf ts[c]) k c t hk
  rw [hr, Option.getD_some] at e
  have hl2 : ((linesOf ts[c]).take k ++ [r] ++ (linesOf ts[c]).drop (k + 1)).length = (linesOf ts[c]).length := by simp; omega
  have a1 : ((linesOf ts[c]).take k).length = k := by simp; omega
  have hk2 : ((linesOf ts[c]).take k ++ [r] ++ (linesOf ts[c]).drop (k + 1))[k]? = some r := by
    rw [List.append_assoc, List.getElem?_append_right (by omega), a1, Nat.sub_self]; rfl
  have hpr : printB s = true := lines_ok_print (split_zero (apply_zero h).1 _ (List.getElem_mem hc)) s (List.mem_of_getElem? hls)
  have hback := flip_twice hls hpr hr hm hpd hk2
  refine reverse_core h hs ht hc rfl rfl ?_ ?_
  · rw [e]
    unfold checkIn lastLine
    rw [if_neg (by simp), if_neg (by simp [ht0]), if_neg (by rw [if_neg (by simp), hl2, ht0]; simp [printB]; omega), if_neg (by simp), if_neg (by simp only [show (k : Int) + 1 - 1 = k from by omega, hback]; simp)]
    rfl
  · rw [e, one_flp _ k c t (by rw [hl2]; exact hk), hback, Option.getD_some]
    have hs2 : (linesOf ts[c])[k] = s := by rw [List.getElem?_eq_getElem hk] at hls; injection hls
    rw [List.append_assoc ((linesOf ts[c]).take k), List.take_append_of_le_length (by omega), List.take_of_length_le (by omega), List.drop_append, a1, show k + 1 - k = 1 from by omega, List.drop_eq_nil_of_le (by omega), List.nil_append]
    conv => rhs; rw [← List.take_append_drop k (linesOf ts[c]), list_step _ k hk, hs2]
    simp
end Go.Proofs.YtpclacofcfbpjaaDoor
