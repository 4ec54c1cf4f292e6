/- A region whose order is drawn, in which each operation gives one value in every world that meets S and keeps S: it is walked once, in the order of its text. Condition: S holds ahead of the region. -/
import Derived.Test.YtoceoaiokkbjeaaGreatDoorProg
import Derived.Deep.RegionHeld3
import Derived.WalkKit
namespace Go.Proofs.YtoceoaiokkbjeaaGreatDoor
section
variable {P : Program} {ops : Array Oper} {Q : Exit → Act → World → Prop} {S : World → Prop}
def Leads (P : Program) (S : World → Prop) (v : Value) : Result Next → Prop
 | .ok (.value u) w' => u = v ∧ S w'
 | .ok (.enter f args) w' => Calls P f args w' fun e w'' => e = .returned v ∧ S w''
 | _ => False
def Gives (P : Program) (ops : Array Oper) (S : World → Prop) (o : Oper) (v : Value) (a : Act) : Prop :=
 (Region.wanted o (yielded ops a.tmps) = true ∧ ∀ w, S w → Leads P S v ((execOp a.eval o).run P w)) ∨
 (Region.wanted o (yielded ops a.tmps) = false ∧ v = undef)
theorem Gives.of_put {o : Oper} {v u : Value} {a : Act} {d : Option Tmp} (hs : ∀ cs b, o.op ≠ .select cs b) (hd : ∀ t, d = some t → t ∉ o.looksAt ops) (h : Gives P ops S o v (a.put d u)) : Gives P ops S o v a := by
 unfold Gives at *
 rwa [execOp_put (ops := ops) o hs a d u hd, wanted_put o a d u hd] at h
theorem Gives.to_put {o : Oper} {v u : Value} {a : Act} {d : Option Tmp} (hs : ∀ cs b, o.op ≠ .select cs b) (hd : ∀ t, d = some t → t ∉ o.looksAt ops) (h : Gives P ops S o v a) : Gives P ops S o v (a.put d u) := by
 unfold Gives at *
 rwa [execOp_put (ops := ops) o hs a d u hd, wanted_put o a d u hd]
theorem Gives.wpOp {i : Nat} {o : Oper} {v : Value} {a : Act} {w : World} {K : Act → World → Prop} (hi : ops[i]? = some o) (h : Gives P ops S o v a) (hS : S w) (hK : ∀ w', S w' → K (a.put o.dst v) w') : wpOp P ops Q i K a w := by
 unfold Go.wpOp
 simp only [hi]
 rcases h with ⟨hw, hv⟩ | ⟨hw, rfl⟩
 ·rw [if_pos hw]
  refine .inl ?_
  have h1 := hv w hS
  unfold Oper.wp
  generalize (execOp a.eval o).run P w = r at h1
  unfold Leads at h1
  split at h1
  ·obtain ⟨rfl, h2⟩ := h1
   exact hK _ h2
  ·exact h1.mono fun e w'' ⟨he, h2⟩ => by subst he; exact hK _ h2
  ·exact h1.elim
 ·rw [if_neg (by rw [hw]; decide)]
  exact hK _ hS
def FixAll (P : Program) (ops : Array Oper) (Q : Exit → Act → World → Prop) (S : World → Prop) : Nat → Array Bool → Act → Prop
 | 0, listed, a => Region.ready .any ops listed = [] ∧ ∀ w, S w → Q .normal a w
 | fuel + 1, listed, a => (Region.ready .any ops listed = [] → ∀ w, S w → Q .normal a w) ∧
  ∀ i ∈ Region.ready .any ops listed, ∃ o v, ops[i]? = some o ∧ Gives P ops S o v a ∧ FixAll P ops Q S fuel (listed.setIfInBounds i true) (a.put o.dst v)
theorem FixAll.wpAny : ∀ (fuel : Nat) (listed : Array Bool) (a : Act) (w : World), FixAll P ops Q S fuel listed a → S w → wpAny P .any ops Q fuel listed a w
 | 0, _, _, w, h, hS => ⟨h.1, h.2 w hS⟩
 | fuel + 1, _, _, w, h, hS => ⟨fun h0 => h.1 h0 w hS, fun i hi => by
  obtain ⟨o, v, ho, hg, hf⟩ := h.2 i hi
  exact hg.wpOp ho hS fun w' h' => FixAll.wpAny fuel _ _ w' hf h'⟩
theorem FixAll.first {i : Nat} {oi : Oper} {v : Value} (hi : ops[i]? = some oi) (hsel : ∀ (j : Nat) (o : Oper) cs b, ops[j]? = some o → o.op ≠ .select cs b) :
  ∀ (fuel : Nat) (listed : Array Bool) (a : Act),
   (∀ j oj, ops[j]? = some oj → j ≠ i → listed.getD j true = false → (∀ e ∈ oj.after, Region.binds .any e = true → e.on ≠ i) → oi.apart ops oj = true) →
   i ∈ Region.ready .any ops listed → Gives P ops S oi v a →
   FixAll P ops Q S fuel (listed.setIfInBounds i true) (a.put oi.dst v) → FixAll P ops Q S (fuel + 1) listed a := by
 intro fuel
 induction fuel with
 | zero =>
  intro listed a _ hr hy H
  refine ⟨fun h => (by rw [h] at hr; cases hr), fun j hj => ?_⟩
  by_cases hji : j = i
  ·subst hji; exact ⟨oi, v, hi, hy, H⟩
  ·have := ready_mono hj hji
   rw [H.1] at this
   cases this
 | succ fuel ih =>
  intro listed a hfree hr hy H
  refine ⟨fun h => (by rw [h] at hr; cases hr), fun j hj => ?_⟩
  by_cases hji : j = i
  ·subst hji; exact ⟨oi, v, hi, hy, H⟩
  ·obtain ⟨oj', u, hoj', hgj, hfj⟩ := H.2 j (ready_mono hj hji)
   obtain ⟨hjun, oj, hoj, hall⟩ := mem_ready.1 hj
   obtain rfl : oj' = oj := Option.some.inj (hoj'.symm.trans hoj)
   have hnot : ∀ e ∈ oj'.after, Region.binds .any e = true → e.on ≠ i := fun e he hb heq => by
    have h1 := hall e he hb
    have h0 := (mem_ready.1 hr).1
    rw [heq] at h1
    rcases Nat.lt_or_ge i listed.size with h' | h'
    ·simp [h'] at h0 h1; rw [h0] at h1; cases h1
    ·simp [Array.getElem?_eq_none h'] at h1
   obtain ⟨s1, s2, s3⟩ := Oper.apart_spec (hfree j oj' hoj hji hjun hnot)
   refine ⟨oj', u, hoj, hgj.of_put (fun cs b => hsel j oj' cs b hoj) s1, ih (listed.setIfInBounds j true) (a.put oj'.dst u) (fun k ok hk hki hun hno => ?_) (ready_mono hr (Ne.symm hji)) (hy.to_put (fun cs b => hsel i oi cs b hi) s3) ?_⟩
   ·refine hfree k ok hk hki ?_ hno
    by_cases hjk : j = k
    ·subst hjk; exact hjun
    ·rw [getD_set_ne true hjk] at hun; exact hun
   ·rw [Array.setIfInBounds_comm _ _ hji, ← Act.put_comm a v u s2]
    exact hfj
def lst (n : Nat) : Nat → Array Bool
 | 0 => Array.replicate n false
 | k + 1 => (lst n k).setIfInBounds k true
def seqOk (ops : Array Oper) : Bool := Region.noSelect ops && ((List.range ops.size).all fun k => Region.free .any ops (lst ops.size k) k && (Region.ready .any ops (lst ops.size k)).contains k) && (Region.ready .any ops (lst ops.size ops.size)).isEmpty
def Seq (P : Program) (ops : Array Oper) (Q : Exit → Act → World → Prop) (S : World → Prop) : List Oper → Act → Prop
 | [], a => ∀ w, S w → Q .normal a w
 | o :: r, a => ∃ v, Gives P ops S o v a ∧ Seq P ops Q S r (a.put o.dst v)
theorem fix_of_seq (hc : seqOk ops = true) : ∀ (m k : Nat) (a : Act), k + m = ops.size → Seq P ops Q S (ops.toList.drop k) a → FixAll P ops Q S m (lst ops.size k) a := by
 simp only [seqOk, Bool.and_eq_true, List.all_eq_true, List.mem_range, List.isEmpty_iff] at hc
 obtain ⟨⟨h1, h2⟩, h3⟩ := hc
 intro m
 induction m with
 | zero =>
  intro k a hk hs
  obtain rfl : k = ops.size := by omega
  rw [List.drop_of_length_le (by simp)] at hs
  exact ⟨h3, hs⟩
 | succ m ih =>
  intro k a hk hs
  have hlt : k < ops.size := by omega
  have hd : ops.toList.drop k = ops[k] :: ops.toList.drop (k + 1) := by
   rw [← List.getElem_cons_drop (by simpa using hlt)]; rfl
  rw [hd] at hs
  obtain ⟨v, hg, hr⟩ := hs
  have ho : ops[k]? = some ops[k] := Array.getElem?_eq_getElem hlt
  obtain ⟨f1, f2⟩ := h2 k hlt
  exact FixAll.first ho (Region.noSelect_spec h1) m _ _ (Region.free_spec ho f1) (by simpa using f2) hg (ih (k + 1) _ (by omega) hr)
theorem zEm {id : Nat} {a : Act} {w : World} (S : World → Prop) (hm : P.follows .mixedOrders = true) (hc : seqOk ops = true) (hS : S w.drew) (h : Seq P ops Q S ops.toList a) : (Code.region id ops true).wp P Q a w :=
 wp_region_any hm (FixAll.wpAny _ _ _ _ (fix_of_seq hc ops.size 0 a (by omega) h) hS)
theorem zIw {o : Oper} {r : List Oper} {a : Act} (hw : Region.wanted o (yielded ops a.tmps) = false) (h : Seq P ops Q S r (a.put o.dst undef)) : Seq P ops Q S (o :: r) a := ⟨undef, .inr ⟨hw, rfl⟩, h⟩
theorem zHl {o : Oper} {r : List Oper} {a : Act} {v : Value} (hw : Region.wanted o (yielded ops a.tmps) = true) (hv : ∀ w, S w → (execOp a.eval o).run P w = .ok (.value v) w) (h : Seq P ops Q S r (a.put o.dst v)) : Seq P ops Q S (o :: r) a :=
 ⟨v, .inl ⟨hw, fun w hS => by rw [hv w hS]; exact ⟨rfl, hS⟩⟩, h⟩
theorem zFi {o : Oper} {r : List Oper} {a : Act} {v : Value} {f : FuncId} {args : Array Value} (hw : Region.wanted o (yielded ops a.tmps) = true) (hv : ∀ w, S w → (execOp a.eval o).run P w = .ok (.enter f args) w) (hc : ∀ w, S w → Calls P f args w fun e w' => e = .returned v ∧ S w') (h : Seq P ops Q S r (a.put o.dst v)) : Seq P ops Q S (o :: r) a :=
 ⟨v, .inl ⟨hw, fun w hS => by rw [hv w hS]; exact hc w hS⟩, h⟩
theorem zJm {a : Act} (h : ∀ w, S w → Q .normal a w) : Seq P ops Q S [] a := h
end
end Go.Proofs.YtoceoaiokkbjeaaGreatDoor
