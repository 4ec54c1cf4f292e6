/- A text in dialect Alpha with comments behind its lines and lines without fields between them, plain. No condition. -/
import Derived.Test.YtoceoaiokkbjeaaGreatDoorVae
namespace Go.Proofs.YtoceoaiokkbjeaaGreatDoor
open Lib (hid)
open Go.RowKit
def gapW : Nat → List UInt8
 | 0 => []
 | 1 => [10]
 | 2 => [33, 32, 110, 111, 116, 101, 10]
 | _ => [32, 9, 10]
def gapL : Nat → List (List UInt8)
 | 0 => []
 | 1 => [[]]
 | 2 => [[33, 32, 110, 111, 116, 101]]
 | _ => [[32, 9]]
def comW : List UInt8 := [32, 33, 120, 32, 121]
def lineG (x : List UInt8) : List UInt8 := 9 :: (x ++ comW)
def zDv (p : Nat × List UInt8) : List UInt8 := gapW p.1 ++ lineG p.2 ++ [10]
def linesG (p : Nat × List UInt8) : List (List UInt8) := gapL p.1 ++ [lineG p.2]
theorem linesGo_one (x r : List UInt8) (h : ∀ b ∈ x, (b.toNat : Int) ≠ 10) : zAp [] (x ++ 10 :: r) = x :: zAp [] r := by
 rw [zIe _ _ _ h]
 rfl
theorem lineG_lf {x : List UInt8} (h : ∀ b ∈ x, (b.toNat : Int) ≠ 10) : ∀ b ∈ lineG x, (b.toNat : Int) ≠ 10 := by
 intro b hb
 rcases List.mem_cons.1 hb with rfl | hb
 ·decide
 ·rcases List.mem_append.1 hb with hb | hb
  ·exact h b hb
  ·exact (show ∀ b ∈ comW, (b.toNat : Int) ≠ 10 from by decide) b hb
theorem linesGo_piece (p : Nat × List UInt8) (h : ∀ b ∈ p.2, (b.toNat : Int) ≠ 10) (r : List UInt8) : zAp [] (zDv p ++ r) = linesG p ++ zAp [] r := by
 have e : zAp [] (lineG p.2 ++ 10 :: r) = lineG p.2 :: zAp [] r := linesGo_one _ _ (lineG_lf h)
 obtain ⟨k, x⟩ := p
 unfold zDv linesG
 rw [List.append_assoc, List.append_assoc]
 show zAp [] (gapW k ++ (lineG x ++ 10 :: r)) = _
 match k with
 | 0 => exact e
 | 1 => exact congrArg ([] :: ·) e
 | 2 => exact congrArg ([33, 32, 110, 111, 116, 101] :: ·) e
 | _ + 3 => exact congrArg ([32, 9] :: ·) e
theorem zKj : ∀ (ps : List (Nat × List UInt8)), (∀ p ∈ ps, ∀ b ∈ p.2, (b.toNat : Int) ≠ 10) → zBy (ps.flatMap zDv) = ps.flatMap linesG
 | [], _ => rfl
 | p :: r, h => by
  have ih := zKj r (fun q hq => h q (List.mem_cons_of_mem _ hq))
  show zAp [] (zDv p ++ r.flatMap zDv) = _
  rw [linesGo_piece p (h p (by simp))]
  show _ ++ zBy _ = _
  rw [ih]
  rfl
theorem zFc : ∀ (x : List UInt8) (o : Option (List UInt8)), zAs 33 o (x ++ comW) = zAs 33 o x
 | [], none => rfl
 | [], some _ => rfl
 | c :: r, none => by
  show (if zEd c.toNat then zAs 33 none (r ++ comW) else if (c.toNat : Int) = 33 then [] else zAs 33 (some [c]) (r ++ comW)) = (if zEd c.toNat then zAs 33 none r else if (c.toNat : Int) = 33 then [] else zAs 33 (some [c]) r)
  rw [zFc r, zFc r]
 | c :: r, some y => by
  show (if zEd c.toNat then y :: zAs 33 none (r ++ comW) else zAs 33 (some (y ++ [c])) (r ++ comW)) = (if zEd c.toNat then y :: zAs 33 none r else zAs 33 (some (y ++ [c])) r)
  rw [zFc r, zFc r]
theorem fieldsOf_lineG (x : List UInt8) : zCh 33 (lineG x) = zCh 33 x := by
 show zAs 33 none (x ++ comW) = _
 rw [zFc]
 rfl
def mixL (q : List (Bool × List (List UInt8))) : List (List (List UInt8)) := q.flatMap fun q => if q.1 then [[], q.2] else [q.2]
def advL (q : List (Bool × List (List UInt8))) (i : Nat) : Nat := ((q.take i).map fun q => if q.1 then 2 else 1).sum
def mixP (p : Nat × List UInt8) : Bool × List (List UInt8) := (decide (0 < p.1), zCh 33 p.2)
theorem linesF_gaps {ps : List (Nat × List UInt8)} (h : ∀ p ∈ ps, ∀ b ∈ p.2, (b.toNat : Int) ≠ 10) : zCt (ps.flatMap zDv) = mixL (ps.map mixP) := by
 unfold zCt mixL
 rw [zKj ps h, List.map_flatMap, List.flatMap_map]
 congr 1
 funext p
 obtain ⟨k, x⟩ := p
 unfold linesG mixP
 rw [List.map_append]
 show _ ++ [zCh 33 (lineG x)] = _
 rw [fieldsOf_lineG]
 match k with
 | 0 => rfl
 | 1 => rfl
 | 2 => rfl
 | _ + 3 => rfl
theorem advL_cons (b : Bool) (f : List (List UInt8)) (r : List (Bool × List (List UInt8))) (j : Nat) : advL ((b, f) :: r) (j + 1) = (if b then 2 else 1) + advL r j := by
 unfold advL
 rw [List.take_succ_cons, List.map_cons, List.sum_cons]
theorem advL_succ {q : List (Bool × List (List UInt8))} {i : Nat} (h : i < q.length) : advL q (i + 1) = advL q i + (if q[i].1 then 2 else 1) := by
 unfold advL
 rw [List.take_succ_eq_append_getElem h, List.map_append, List.sum_append]
 simp
theorem mixL_len : ∀ q : List (Bool × List (List UInt8)), (mixL q).length = advL q q.length
 | [] => rfl
 | (b, f) :: r => by
  have ih := mixL_len r
  rw [List.length_cons, advL_cons]
  unfold mixL at ih ⊢
  rw [List.flatMap_cons, List.length_append, ih]
  cases b <;> rfl
theorem linesS_mix : ∀ (q : List (Bool × List (List UInt8))) (n k : Nat) (a : Al),
  (∀ a', zBt (q.map (·.2)) k a = (a', none) → zBt (mixL q) n a = (a', none)) ∧
  ∀ a' m, zBt (q.map (·.2)) k a = (a', some m) → ∃ j, m = k + j ∧ j ≤ q.length ∧ zBt (mixL q) n a = (a', some (n + advL q j))
 | [], n, k, a => ⟨fun _ h => h, fun _ _ h => (by cases h)⟩
 | (b, f) :: r, n, k, a => by
  have e1 : zBt (mixL ((b, f) :: r)) n a = zBt (f :: mixL r) (if b then n + 1 else n) a := by
   unfold mixL
   rw [List.flatMap_cons]
   cases b <;> rfl
  rw [e1]
  have e2 : ∀ j, n + advL ((b, f) :: r) (j + 1) = (if b then n + 1 else n) + 1 + advL r j := fun j => by
   rw [advL_cons]
   cases b <;> simp <;> omega
  generalize (if b then n + 1 else n) = n' at e2
  have step : ∀ a2, zBt ((((b, f) :: r).map (·.2))) k a = zBt (r.map (·.2)) (k + 1) a2 → zBt (f :: mixL r) n' a = zBt (mixL r) (n' + 1) a2 → _ := fun a2 h1 h2 => by
   obtain ⟨i1, i2⟩ := linesS_mix r (n' + 1) (k + 1) a2
   rw [← h1, ← h2] at i1
   rw [← h1, ← h2] at i2
   refine (⟨i1, fun a' m h => ?_⟩ : (∀ a', zBt (((b, f) :: r).map (·.2)) k a = (a', none) → zBt (f :: mixL r) n' a = (a', none)) ∧ ∀ a' m, zBt (((b, f) :: r).map (·.2)) k a = (a', some m) → ∃ j, m = k + j ∧ j ≤ ((b, f) :: r).length ∧ zBt (f :: mixL r) n' a = (a', some (n + advL ((b, f) :: r) j)))
   obtain ⟨j, h3, h4, h5⟩ := i2 a' m h
   exact ⟨j + 1, by omega, by simp only [List.length_cons]; omega, by rw [h5, e2]⟩
  cases f with
  | nil => exact step a rfl rfl
  | cons x fs =>
   cases hc : (lineS (x :: fs) a).2 with
   | true =>
    refine step (lineS (x :: fs) a).1 ?_ ?_
    ·show (if (lineS (x :: fs) a).2 then zBt (r.map (·.2)) (k + 1) (lineS (x :: fs) a).1 else (a, some (k + 1))) = _
     rw [hc]; rfl
    ·show (if (lineS (x :: fs) a).2 then zBt (mixL r) (n' + 1) (lineS (x :: fs) a).1 else (a, some (n' + 1))) = _
     rw [hc]; rfl
   | false =>
    have h1 : zBt (((b, x :: fs) :: r).map (·.2)) k a = (a, some (k + 1)) := by
     show (if (lineS (x :: fs) a).2 then zBt (r.map (·.2)) (k + 1) (lineS (x :: fs) a).1 else (a, some (k + 1))) = _
     rw [hc]; rfl
    have h2 : zBt ((x :: fs) :: mixL r) n' a = (a, some (n' + 1)) := by
     show (if (lineS (x :: fs) a).2 then zBt (mixL r) (n' + 1) (lineS (x :: fs) a).1 else (a, some (n' + 1))) = _
     rw [hc]; rfl
    rw [h1, h2]
    refine ⟨fun _ h => (by cases h), fun a' m h => ?_⟩
    injection h with h3 h4
    injection h4 with h4
    subst h3 h4
    refine ⟨1, rfl, by simp, ?_⟩
    rw [e2 0]
    rfl
theorem zId (P : UInt8 → Prop) : ∀ (l cur : List UInt8), (∀ b ∈ l, P b) → (∀ b ∈ cur, P b) → ∀ x ∈ zAp cur l, ∀ b ∈ x, P b
 | [], cur, _, hc, x, hx => by
  unfold zAp flush at hx
  split at hx
  ·cases hx
  ·rw [List.mem_singleton] at hx; subst hx; exact hc
 | c :: r, cur, hl, hc, x, hx => by
  have hr : ∀ b ∈ r, P b := fun b hb => hl b (List.mem_cons_of_mem _ hb)
  unfold zAp at hx
  split at hx
  ·rcases List.mem_cons.1 hx with rfl | hx
   ·exact hc
   ·exact zId P r [] hr (fun _ h => by cases h) x hx
  ·exact zId P r (cur ++ [c]) hr (fun b hb => (List.mem_append.1 hb).elim (hc b) (fun h => by rw [List.mem_singleton] at h; subst h; exact hl _ (by simp))) x hx
theorem zFo : ∀ (l cur : List UInt8), (∀ b ∈ cur, (b.toNat : Int) ≠ 10) → ∀ x ∈ zAp cur l, ∀ b ∈ x, (b.toNat : Int) ≠ 10
 | [], cur, hc, x, hx => by
  unfold zAp flush at hx
  split at hx
  ·cases hx
  ·rw [List.mem_singleton] at hx; subst hx; exact hc
 | c :: r, cur, hc, x, hx => by
  unfold zAp at hx
  split at hx
  ·rcases List.mem_cons.1 hx with rfl | hx
   ·exact hc
   ·exact zFo r [] (fun _ h => by cases h) x hx
  ·next h10 => exact zFo r (cur ++ [c]) (fun b hb => (List.mem_append.1 hb).elim (hc b) (fun h => by rw [List.mem_singleton] at h; subst h; exact h10)) x hx
theorem zIb : ∀ (l cur : List UInt8), ((zAp cur l).map (fun x => x.length + 1)).sum ≤ cur.length + l.length + 1
 | [], cur => by
  unfold zAp flush
  split
  ·simp
  ·simp
 | c :: r, cur => by
  unfold zAp
  split
  ·have := zIb r []
   simp only [List.map_cons, List.sum_cons, List.length_cons, List.length_nil] at this ⊢
   omega
  ·have := zIb r (cur ++ [c])
   simp only [List.length_append, List.length_cons, List.length_nil] at this ⊢
   omega
theorem pieceG_len (p : Nat × List UInt8) : (zDv p).length ≤ 14 + p.2.length := by
 obtain ⟨k, x⟩ := p
 unfold zDv lineG comW
 simp only [List.length_append, List.length_cons, List.length_nil]
 match k with
 | 0 => simp [gapW]; omega
 | 1 => simp [gapW]; omega
 | 2 => simp [gapW]; omega
 | _ + 3 => simp [gapW]; omega
theorem gaps_len : ∀ ps : List (Nat × List UInt8), (ps.flatMap zDv).length ≤ 14 * ((ps.map (·.2)).map (fun x => x.length + 1)).sum
 | [] => Nat.le_refl _
 | p :: r => by
  have h1 := gaps_len r
  have h2 := pieceG_len p
  simp only [List.flatMap_cons, List.length_append, List.map_cons, List.sum_cons]
  omega
theorem gaps_valid {ps : List (Nat × List UInt8)} (h : ∀ p ∈ ps, zBx p.2 = true) : zBx (ps.flatMap zDv) = true := by
 unfold zBx at h ⊢
 rw [List.all_eq_true]
 intro b hb
 obtain ⟨⟨k, x⟩, hp, hb⟩ := List.mem_flatMap.1 hb
 have hx := h _ hp
 unfold zDv lineG at hb
 rcases List.mem_append.1 hb with hb | hb
 ·rcases List.mem_append.1 hb with hb | hb
  ·match k with
   | 0 => cases hb
   | 1 => exact (show ∀ b ∈ gapW 1, zEj b.toNat = true from by decide) b hb
   | 2 => exact (show ∀ b ∈ gapW 2, zEj b.toNat = true from by decide) b hb
   | n + 3 => exact (show ∀ b ∈ ([32, 9, 10] : List UInt8), zEj b.toNat = true from by decide) b hb
  ·rcases List.mem_cons.1 hb with rfl | hb
   ·decide
   ·rcases List.mem_append.1 hb with hb | hb
    ·exact List.all_eq_true.1 hx b hb
    ·exact (show ∀ b ∈ comW, zEj b.toNat = true from by decide) b hb
 ·rw [List.mem_singleton] at hb
  subst hb
  decide
def kOf (gs : List Int) (i : Nat) : Nat := if i < gs.length then ((gs.getD i 0) % 4).toNat else 0
def gapsP (gs : List Int) (ls : List (List UInt8)) : List (Nat × List UInt8) := ls.zipIdx.map fun x => (kOf gs x.2, x.1)
theorem gapsP_len (gs : List Int) (ls : List (List UInt8)) : (gapsP gs ls).length = ls.length := by simp [gapsP]
theorem gapsP_get (gs : List Int) {ls : List (List UInt8)} {i : Nat} (h : i < ls.length) : (gapsP gs ls)[i]'(by rw [gapsP_len]; exact h) = (kOf gs i, ls[i]) := by simp [gapsP]
theorem gapsP_snd (gs : List Int) (ls : List (List UInt8)) : (gapsP gs ls).map (·.2) = ls := by
 apply List.ext_getElem
 ·simp [gapsP]
 ·intro i h1 h2
  rw [List.getElem_map, gapsP_get gs h2]
theorem gaps_ok {l : List UInt8} (hl : l.length ≤ 2000) (h0 : zAy l = 0) (gs : List Int) :
  zAy ((gapsP gs (zBy l)).flatMap zDv) = 0 ∧ zCt ((gapsP gs (zBy l)).flatMap zDv) = mixL ((gapsP gs (zBy l)).map mixP) ∧ ((gapsP gs (zBy l)).map mixP).map (·.2) = zCt l := by
 have hv : zBx l = true := by
  unfold zAy at h0
  rw [if_neg (by omega)] at h0
  cases h : zBx l with
  | true => rfl
  | false => rw [h] at h0; cases h0
 have hsnd := gapsP_snd gs (zBy l)
 have hmem : ∀ p ∈ gapsP gs (zBy l), p.2 ∈ zBy l := fun p hp => by rw [← hsnd]; exact List.mem_map_of_mem hp
 refine ⟨?_, linesF_gaps (fun p hp => zFo l [] (fun _ h => by cases h) p.2 (hmem p hp)), ?_⟩
 ·have h1 := gaps_len (gapsP gs (zBy l))
  rw [hsnd] at h1
  have h2 := zIb l []
  have h3 : ((zBy l).map (fun x => x.length + 1)).sum ≤ 0 + l.length + 1 := h2
  have h4 := gaps_valid (ps := gapsP gs (zBy l)) (fun p hp => by
   unfold zBx at hv ⊢
   rw [List.all_eq_true]
   exact zId (fun b => zEj b.toNat = true) l [] (List.all_eq_true.1 hv) (fun _ h => by cases h) p.2 (hmem p hp))
  unfold zAy
  rw [if_neg (by omega), h4]
  rfl
 ·unfold zCt
  rw [List.map_map, ← hsnd, List.map_map, hsnd]
  rfl
end Go.Proofs.YtoceoaiokkbjeaaGreatDoor
