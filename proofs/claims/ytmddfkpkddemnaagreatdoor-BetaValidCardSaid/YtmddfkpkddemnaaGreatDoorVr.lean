/- Beta's forms as closures: which pointer a form holds; the last element of a slice of the reader as a struct that a form turns; what a form answers. No condition. -/
import Derived.Test.YtmddfkpkddemnaaGreatDoorVq
import Derived.Test.YtmddfkpkddemnaaGreatDoorVo
import Derived.Test.YtmddfkpkddemnaaGreatDoorVm
import Derived.Deep.RegionHeld3
namespace Go.Proofs.YtmddfkpkddemnaaGreatDoor
open Go.RowKit
/-- The blocks of owned rows. -/
def blks (rs : List Orow) : List Nat := rs.filterMap (·.v.ownBlock)
theorem blks_append (a b : List Orow) : blks (a ++ b) = blks a ++ blks b := List.filterMap_append
/-- A slice as a row that is owned. -/
def rowE {α : Type} (T : TypeId) (n : Nat) (cells : α → Array Value) (v : Value) (l : List α) : Orow := ⟨T, n, v, l.length, l.flatMap fun x => (cells x).toList⟩
theorem rowE_own {α : Type} {w : World} {B : Nat} {T : TypeId} {n : Nat} {cells : α → Array Value} {v : Value} {l : List α} : (rowE T n cells v l).own w B ↔ OwnE w B T n cells v l := Iff.rfl
/-- Some of the rows turned in their own blocks or new ones, or made anew. -/
theorem OwnAll.swap {w w' : World} {B : Nat} {pre X X' post : List Orow} {rs : List Nat} (h : OwnAll w B (pre ++ X ++ post)) (hf : Fr rs w w') (ho : OwnAll w' B X') (hn : ∀ k ∈ blks X', k ∈ blks X ∨ w.heap.size ≤ k)
    (hr : ∀ k ∈ rs, k ∉ blks pre ∧ k ∉ blks post) : OwnAll w' B (pre ++ X' ++ post) := by
  have hd := h.2
  rw [List.filterMap_append, List.filterMap_append] at hd
  have hlt : ∀ k, k ∈ blks pre ∨ k ∈ blks post → k < w.heap.size := by
    intro k hk
    refine (OwnAll.lt h ?_).1
    rw [List.filterMap_append, List.filterMap_append]
    rcases hk with hk | hk
    · exact List.mem_append_left _ (List.mem_append_left _ hk)
    · exact List.mem_append_right _ hk
  refine ⟨fun r hr' => ?_, ?_⟩
  · rcases List.mem_append.1 hr' with h1 | h1
    · rcases List.mem_append.1 h1 with h2 | h2
      · exact Orow.own.fr (h.1 r (List.mem_append_left _ (List.mem_append_left _ h2))) hf (fun g hg hm => (hr g hm).1 (List.mem_filterMap.2 ⟨r, h2, hg⟩))
      · exact ho.1 r h2
    · exact Orow.own.fr (h.1 r (List.mem_append_right _ h1)) hf (fun g hg hm => (hr g hm).2 (List.mem_filterMap.2 ⟨r, h1, hg⟩))
  · rw [List.filterMap_append, List.filterMap_append]
    have h1 := List.nodup_append.1 hd
    have h2 := List.nodup_append.1 h1.1
    refine List.nodup_append.2 ⟨List.nodup_append.2 ⟨h2.1, ho.2, fun a ha b hb e => ?_⟩, h1.2.1, fun a ha b hb e => ?_⟩
    · subst e
      rcases hn a hb with hx | hx
      · exact h2.2.2 a ha a hx rfl
      · have := hlt a (.inl ha); omega
    · subst e
      rcases List.mem_append.1 ha with ha | ha
      · exact h1.2.2 a (List.mem_append_left _ ha) a hb rfl
      · rcases hn a ha with hx | hx
        · exact h1.2.2 a (List.mem_append_right _ hx) a hb rfl
        · have := hlt a (.inr hb); omega
/-- The rows of the reader's slices. -/
def rP (x : PList) : Orow := rowE 105 5 PRule.C x.v x.rules
def rM (x : RMap) : Orow := rowE 110 7 Cl.C x.v x.clauses
def rA (x : AList) : Orow := rowE 119 10 Ru.C x.v x.rules
def btR (r : Rt) : List Orow :=
  rowE 67 12 If.C r.ifsV r.ifs :: rowE 69 9 Tr.C r.natV r.nat :: rowE 73 7 Sr.C r.statV r.stat :: rowE 122 3 AR.C r.rangesV r.ranges :: rowE 192 5 Rd.C r.lsRedV r.lsRed :: rowE 192 5 Rd.C r.dvRedV r.dvRed :: rowE 124 4 Nb.C r.nbV r.nb :: rowE 71 2 Pf.C r.netV r.net :: rowE 126 3 Ag.C r.agV r.ag :: rowE 128 5 Cd.C r.cdV r.cd :: rowE 192 5 Rd.C r.pvRedV r.pvRed ::
  rowE 103 2 PList.C r.listsV r.lists :: rowE 108 2 RMap.C r.mapsV r.maps :: rowE 113 2 AList.C r.aclsV r.acls :: (r.lists.map rP ++ (r.maps.map rM ++ r.acls.map rA))
/-- Blocks that lie beside the reader and stay as they are. -/
abbrev Kept := List (Nat × Obj)
/-- Beta's reader in block g: its router is r; of what is older than w0 nothing below block B has turned. -/
structure BR (g B : Nat) (w0 : World) (r : Rt) (K : Kept) (w : World) : Prop where
  has : HasC 90 g r.C w
  own : OwnAll w B (btR r)
  bel : Below B w0 w
  bB : B ≤ w0.heap.size
  gB : B ≤ g
  gr : g ∉ blks (btR r)
  keep : ∀ k ∈ K, w.heap[k.1]? = some k.2 ∧ k.1 ≠ g ∧ k.1 ∉ blks (btR r)
/-- .. and the words p of a node in block b. -/
structure BW (g B : Nat) (w0 : World) (r : Rt) (K : Kept) (T : TypeId × Bool) (b : Nat) (p : Ps) (w : World) : Prop extends BR g B w0 r K w where
  st : WSt T b B p w
  gb : g ≠ b
  br : b ∉ blks (btR r)
  kb : ∀ k ∈ K, k.1 ≠ b
section
variable {g b B : Nat} {w0 w w' : World} {r r' : Rt} {K K' : Kept} {T : TypeId × Bool} {p p' : Ps} {pre X X' post : List Orow}
theorem BR.size (h : BR g B w0 r K w) : w0.heap.size ≤ w.heap.size := h.bel.size
theorem BR.lt (h : BR g B w0 r K w) : g < w.heap.size := blk_lt h.has
theorem BR.blt (h : BR g B w0 r K w) {k : Nat} (hk : k ∈ blks (btR r)) : k < w.heap.size ∧ B ≤ k := OwnAll.lt h.own hk
theorem BR.env (h : BR g B w0 r K w) (he : EnvA B w0) : EnvA B w := he.keep h.bel
theorem BR.cell (h : BR g B w0 r K w) (j : Nat) : w.cell? ⟨g, j, none⟩ = r.C[j]? := h.has.cell j
theorem BR.frz (h : BR g B w0 r K w) (j : Nat) : w.frozen? ⟨g, j, none⟩ = false := h.has.frz j
theorem BR.less (h : BR g B w0 r K w) (hk : ∀ k ∈ K', k ∈ K) : BR g B w0 r K' w := ⟨h.has, h.own, h.bel, h.bB, h.gB, h.gr, fun k hx => h.keep k (hk k hx)⟩
theorem BW.less (h : BW g B w0 r K T b p w) (hk : ∀ k ∈ K', k ∈ K) : BW g B w0 r K' T b p w := ⟨h.toBR.less hk, h.st, h.gb, h.br, fun k hx => h.kb k (hk k hx)⟩
theorem blks_perm {a c : List Orow} (h : a.Perm c) {k : Nat} : k ∈ blks a ↔ k ∈ blks c := (h.filterMap _).mem_iff
/-- Rows X become X', the struct and the words may turn besides. -/
theorem BW.turn (h : BW g B w0 r K T b p w) (e : (btR r).Perm (X ++ post)) (e' : (btR r').Perm (X' ++ post)) (hf : Fr (g :: b :: blks X) w w') (hh : HasC 90 g r'.C w') (hs : WSt T b B p' w') (ho : OwnAll w' B X')
    (hn : ∀ k ∈ blks X', k ∈ blks X ∨ w.heap.size ≤ k) : BW g B w0 r' K T b p' w' := by
  have hw := h.size
  have hB := h.bB
  have hgr := h.gr
  have hbr := h.br
  have hown := h.own.perm e.symm
  rw [blks_perm e, blks_append] at hgr hbr
  have hd := hown.2
  rw [List.filterMap_append] at hd
  have hX : ∀ k ∈ blks X, k ∈ blks (btR r) := fun k hk => by rw [blks_perm e, blks_append]; exact List.mem_append_left _ hk
  have hgB := h.gB
  have hbB := h.st.1
  have hgl := h.lt
  have hbl := h.st.lt
  have hout : ∀ k, k ∉ blks (btR r) → k < w.heap.size → k ∉ blks (btR r') := by
    intro k hk hl hm
    rw [blks_perm e', blks_append] at hm
    rw [blks_perm e, blks_append] at hk
    rcases List.mem_append.1 hm with hm | hm
    · rcases hn _ hm with e | e
      · exact hk (List.mem_append_left _ e)
      · omega
    · exact hk (List.mem_append_right _ hm)
  refine ⟨⟨hh, ?_, h.bel.trans (hf.below (fun k hk => ?_) (by omega)), h.bB, h.gB, hout g h.gr hgl, fun k hk => ?_⟩, hs, h.gb, hout b h.br hbl, h.kb⟩
  · refine OwnAll.perm ?_ e'
    refine OwnAll.swap (pre := []) hown hf ho hn (fun k hk => ⟨List.not_mem_nil, ?_⟩)
    rcases List.mem_cons.1 hk with e1 | hk
    · subst e1
      exact fun hm => hgr (List.mem_append_right _ hm)
    rcases List.mem_cons.1 hk with e1 | hk
    · subst e1
      exact fun hm => hbr (List.mem_append_right _ hm)
    · exact fun hm => (List.nodup_append.1 hd).2.2 k hk k hm rfl
  · rcases List.mem_cons.1 hk with e1 | hk
    · omega
    rcases List.mem_cons.1 hk with e1 | hk
    · omega
    · exact (h.blt (hX k hk)).2
  · obtain ⟨k1, k2, k3⟩ := h.keep k hk
    refine ⟨(hf.block k.1 (blk_lt k1) (fun hm => ?_)).trans k1, k2, hout k.1 k3 (blk_lt k1)⟩
    rcases List.mem_cons.1 hm with e1 | hm
    · exact k2 e1
    rcases List.mem_cons.1 hm with e1 | hm
    · exact h.kb k hk e1
    · exact k3 (hX _ hm)
/-- Struct and words alone. -/
theorem BW.turn0 (h : BW g B w0 r K T b p w) (e : btR r' = btR r) (hf : Fr [g, b] w w') (hh : HasC 90 g r'.C w') (hs : WSt T b B p' w') : BW g B w0 r' K T b p' w' :=
  h.turn (X := []) (X' := []) (post := btR r) (List.Perm.refl _) (by rw [e]; exact List.Perm.refl _) hf hh hs ⟨fun _ h => (by cases h), List.nodup_nil⟩ (fun _ h => by cases h)
theorem BW.word (h : BW g B w0 r K T b p w) (hs : WSt T b B p' w') (hg : w.grownBy w' (some b)) : BW g B w0 r K T b p' w' :=
  h.turn0 rfl (Fr.ofOne hg (by simp)) (h.has.grown hg (fun e => h.gb (by injection e))) hs
theorem BW.put (h : BW g B w0 r K T b p w) (j : Nat) (v : Value) (e : r.C.setIfInBounds j v = r'.C) (eb : btR r' = btR r) : BW g B w0 r' K T b p (w.setCell ⟨g, j, none⟩ v) :=
  h.turn0 eb (Fr.set w (by simp) j v) (by rw [← e]; exact Lib.heap_setCell_same (i := j) h.has v) (h.st.other (grown_set w g j v) (fun k hk => by cases hk; exact ⟨h.gB, h.gb⟩))
theorem BW.on (h : BW g B w0 r K T b p w) (hb : Below w.heap.size w w') : BW g B w0 r K T b p w' := h.turn0 rfl (Fr.of_below hb) (h.has.keep hb) (h.st.keep hb)
theorem BW.bad (h : BW g B w0 r K T b p w) : BW g B w0 r K T b p.fail (w.setCell ⟨b, 2, none⟩ (.bool true)) := h.word h.st.failed.1 h.st.failed.2
/-- A new block is kept. -/
theorem BW.box (h : BW g B w0 r K T b p w) (o : Obj) : BW g B w0 r ((w.heap.size, o) :: K) T b p (w.alloc o) := by
  have hb : Below w.heap.size w (w.alloc o) := (Below.refl _ w).alloc (Nat.le_refl _) o
  have h1 := h.on hb
  refine ⟨⟨h1.has, h1.own, h1.bel, h1.bB, h1.gB, h1.gr, fun k hk => ?_⟩, h1.st, h1.gb, h1.br, fun k hk => ?_⟩
  · rcases List.mem_cons.1 hk with rfl | hk
    · exact ⟨heap_alloc_new w o, Nat.ne_of_gt h.lt, fun hm => Nat.lt_irrefl _ (h.blt hm).1⟩
    · exact h1.keep k hk
  · rcases List.mem_cons.1 hk with rfl | hk
    · exact Nat.ne_of_gt h.st.lt
    · exact h1.kb k hk
end
end Go.Proofs.YtmddfkpkddemnaaGreatDoor
namespace Go.Proofs.YtmddfkpkddemnaaGreatDoor
open Go.RowKit
/-- Behind some steps since w0: the struct (from o on in block g) holds cs, the words are p, no other old block has turned; the blocks K lie beside them. -/
structure Ck (E : TypeId) (g o : Nat) (cur : Array Value) (T : TypeId × Bool) (b B : Nat) (K : Kept) (w0 : World) (cs : Array Value) (p : Ps) (w : World) : Prop where
  part : Part E g o cur cs w
  st : WSt T b B p w
  fr : Fr [g, b] w0 w
  gb : g ≠ b
  gB : B ≤ g
  bB : B ≤ w0.heap.size
  keep : ∀ k ∈ K, w.heap[k.1]? = some k.2 ∧ k.1 ≠ g ∧ k.1 ≠ b
section
variable {E U : TypeId} {T : TypeId × Bool} {g o b B k : Nat} {cur cs : Array Value} {p p' : Ps} {w0 w w' : World} {K : Kept} {v : Value} {x : Nat × Obj}
theorem Ck.fr1 (h : Ck E g o cur T b B K w0 cs p w) (hf : Fr [g, b] w w') : ∀ k ∈ K, w'.heap[k.1]? = some k.2 ∧ k.1 ≠ g ∧ k.1 ≠ b := fun k hk => by
  obtain ⟨h1, h2, h3⟩ := h.keep k hk
  refine ⟨(hf.block k.1 (blk_lt h1) (fun hm => ?_)).trans h1, h2, h3⟩
  simp only [List.mem_cons, List.not_mem_nil, or_false] at hm
  exact hm.elim h2 h3
theorem Ck.put (h : Ck E g o cur T b B K w0 cs p w) {cs' : Array Value} {j : Nat} (hj : j < cs.size) (v : Value) (e : cs.setIfInBounds j v = cs') : Ck E g o cur T b B K w0 cs' p (w.setCell ⟨g, o + j, none⟩ v) :=
  ⟨h.part.put hj v e, h.st.other (grown_set w g (o + j) v) (fun k hk => by cases hk; exact ⟨h.gB, h.gb⟩), h.fr.trans (Fr.set w (by simp) _ _), h.gb, h.gB, h.bB, h.fr1 (Fr.set w (by simp) _ _)⟩
theorem Ck.word (h : Ck E g o cur T b B K w0 cs p w) (hs : WSt T b B p' w') (hg : w.grownBy w' (some b)) : Ck E g o cur T b B K w0 cs p' w' :=
  ⟨h.part.frame hg (fun e => h.gb (by injection e with e; exact e.symm)), hs, h.fr.trans (Fr.ofOne hg (by simp)), h.gb, h.gB, h.bB, h.fr1 (Fr.ofOne hg (by simp))⟩
theorem Ck.drew (h : Ck E g o cur T b B K w0 cs p w) : Ck E g o cur T b B K w0 cs p w.drew := ⟨h.part, h.st, h.fr.trans (Fr.of_below ⟨rfl, rfl, rfl, Nat.le_refl _, fun _ _ => rfl⟩), h.gb, h.gB, h.bB, h.keep⟩
theorem set_other {W : World} {q j : Nat} {u v : Value} (hq : k ≠ q) (hc : W.cell? ⟨k, 0, none⟩ = some u) : (W.setCell ⟨q, j, none⟩ v).cell? ⟨k, 0, none⟩ = some u :=
  (grown_set W q j v).cell (a := ⟨k, 0, none⟩) hc (fun e => hq (by injection e))
theorem Ck.bad (h : Ck E g o cur T b B K w0 cs p w) : Ck E g o cur T b B K w0 cs p.fail (w.setCell ⟨b, 2, none⟩ (.bool true)) := h.word h.st.failed.1 h.st.failed.2
theorem Ck.cell (h : Ck E g o cur T b B K w0 cs p w) {j : Nat} (hj : j < cs.size) : ∃ v, w.cell? ⟨g, o + j, none⟩ = some v := ⟨cs[j], by rw [h.part.cell hj, Array.getElem?_eq_getElem hj]⟩
theorem Ck.frz (h : Ck E g o cur T b B K w0 cs p w) (j : Nat) : w.frozen? ⟨g, o + j, none⟩ = false := h.part.frz _
theorem Ck.env (h : Ck E g o cur T b B K w0 cs p w) (he : EnvA B w0) : EnvA B w :=
  he.keep (h.fr.below (fun k hk => by
    have hb := h.st.1
    have hg := h.gB
    simp only [List.mem_cons, List.not_mem_nil, or_false] at hk
    rcases hk with rfl | rfl <;> assumption) h.bB)
theorem Ck.kc (h : Ck E g o cur T b B ((k, .cells #[v] U (0, 0)) :: K) w0 cs p w) : w.cell? ⟨k, 0, none⟩ = some v := by
  rw [Lib.cell_of_heap (h.keep _ List.mem_cons_self).1]; rfl
theorem Ck.kc2 (h : Ck E g o cur T b B (x :: (k, .cells #[v] U (0, 0)) :: K) w0 cs p w) : w.cell? ⟨k, 0, none⟩ = some v := by
  rw [Lib.cell_of_heap (h.keep _ (List.mem_cons_of_mem _ List.mem_cons_self)).1]; rfl
end
/-- What a form that turns one struct answers: its key, no form; the struct is f's, the words p'. -/
def FPost {α : Type} (F : Rt → Ps → FmR) (mk : (α → α) → Rt → Rt) (C : α → Array Value) (x : α) (E : TypeId) (g o : Nat) (cur : Array Value) (T : TypeId × Bool) (b B : Nat) (K : Kept) (w0 : World) (p : Ps) (e : Ending) (w : World) : Prop :=
  ∃ key f p', (∀ r, F r p = (key, none, mk f r, p')) ∧ e = .returned (.tuple #[strV key, .nilFunc]) ∧ Ck E g o cur T b B K w0 (C (f x)) p' w
theorem lastF_id {α : Type} : ∀ l : List α, lastF (fun x => x) l = l
  | [] => rfl
  | [_] => rfl
  | x :: y :: r => by
    rw [lastF]
    · rw [lastF_id (y :: r)]
    · intro h; cases h
theorem ifF_id (r : Rt) : ifF (fun x => x) r = r := by unfold ifF; rw [lastF_id]
theorem map_id_last {α : Type} (f : α → α) (hf : ∀ x, f x = x) (l : List α) : lastF f l = l := by
  obtain rfl : f = fun x => x := funext hf
  exact lastF_id l
theorem clF_id (r : Rt) : clF (fun x => x) r = r := by unfold clF; rw [map_id_last _ (fun m => by rw [lastF_id])]
theorem ruF_id (r : Rt) : ruF (fun x => x) r = r := by unfold ruF; rw [map_id_last _ (fun m => by rw [lastF_id])]
theorem stF_id (r : Rt) : stF (fun x => x) r = r := by unfold stF; rw [lastF_id]
theorem nbF_id (r : Rt) : nbF' (fun x => x) r = r := by unfold nbF'; rw [lastF_id]
theorem short_opt {p : Ps} (x : List UInt8) (h : p.short) : (optS x p).short := by
  unfold optS; split
  · exact fun f hf => h f (List.mem_of_mem_tail hf)
  · exact h
theorem short_wS {p : Ps} (h : p.short) : (wS p).short := by
  obtain ⟨fs, bad⟩ := p
  cases fs with
  | nil => exact h
  | cons f r => exact fun x hx => h x (List.mem_cons_of_mem _ hx)
theorem short_must {p : Ps} (c : Bool) (h : p.short) : (mustS c p).short := by
  unfold mustS; split <;> exact h
theorem short_px {p : Ps} (h : p.short) : (pxS p).short := short_must _ (short_wS h)
theorem short_ad {p : Ps} (h : p.short) : (adS p).short := short_must _ (short_wS h)
theorem short_nm {p : Ps} (h : p.short) : (nmS p).short := short_must _ (short_wS h)
theorem short_no {p : Ps} (lo hi : Int) (h : p.short) : (noS lo hi p).short := short_must _ (short_wS h)
theorem short_ch {p : Ps} (a c : List UInt8) (h : p.short) : (chS a c p).short := short_must _ (short_wS h)
end Go.Proofs.YtmddfkpkddemnaaGreatDoor
namespace Go.Proofs.YtmddfkpkddemnaaGreatDoor
open Go.RowKit
/-- A router without where its slices lie. -/
def Rt.plain (r : Rt) : Rt := { r with ifsV := .slice none 0 0, listsV := .slice none 0 0, mapsV := .slice none 0 0, aclsV := .slice none 0 0, natV := .slice none 0 0, statV := .slice none 0 0, rangesV := .slice none 0 0, lsRedV := .slice none 0 0, dvRedV := .slice none 0 0, nbV := .slice none 0 0, netV := .slice none 0 0, agV := .slice none 0 0, cdV := .slice none 0 0, pvRedV := .slice none 0 0, lists := r.lists.map (fun x => ⟨x.name, .slice none 0 0, x.rules⟩), maps := r.maps.map (fun x => ⟨x.name, .slice none 0 0, x.clauses⟩), acls := r.acls.map (fun x => ⟨x.name, .slice none 0 0, x.rules⟩) }
section
variable {k : Nat} {r : Rt}
theorem lenL (r : Rt) : r.plain.lists.length = r.lists.length := List.length_map _
theorem lenM (r : Rt) : r.plain.maps.length = r.maps.length := List.length_map _
theorem lenA (r : Rt) : r.plain.acls.length = r.acls.length := List.length_map _
/-- Bounds of a router's lists, from those of the plain one. -/
theorem rulesL (h : RtI k r.plain) {x : PList} (hx : x ∈ r.lists) : x.rules.length ≤ k ∧ ∀ y ∈ x.rules, y.fit :=
  h.lists.2 ⟨x.name, .slice none 0 0, x.rules⟩ (List.mem_map.2 ⟨x, hx, rfl⟩)
theorem rulesA (h : RtI k r.plain) {x : AList} (hx : x ∈ r.acls) : x.rules.length ≤ k ∧ ∀ y ∈ x.rules, y.fit :=
  h.acls.2 ⟨x.name, .slice none 0 0, x.rules⟩ (List.mem_map.2 ⟨x, hx, rfl⟩)
theorem rulesM (h : RtI k r.plain) {x : RMap} (hx : x ∈ r.maps) : x.clauses.length ≤ k :=
  (h.maps.2 ⟨x.name, .slice none 0 0, x.clauses⟩ (List.mem_map.2 ⟨x, hx, rfl⟩)).1
end
end Go.Proofs.YtmddfkpkddemnaaGreatDoor
namespace Go.Proofs.YtmddfkpkddemnaaGreatDoor
open Go.RowKit
theorem lastF_snoc {α : Type} (f : α → α) (x : α) : ∀ l : List α, lastF f (l ++ [x]) = l ++ [f x]
  | [] => rfl
  | [y] => rfl
  | y :: z :: r => by
    have ih := lastF_snoc f x (z :: r)
    show lastF f (y :: (z :: r ++ [x])) = y :: (z :: r ++ [f x])
    rw [← ih]
    rfl
theorem setAtL_snoc {α : Type} (l : List α) (x y : α) : setAtL (l ++ [x]) l.length y = l ++ [y] := by
  unfold setAtL; simp
/-- A closure over the place of the last element of a slice. -/
def ElV {α : Type} (F : Nat) (U : TypeId) (n : Nat) (v : Value) (l : List α) (K : Kept) (fv : Value) : Prop :=
  ∃ gg cap l0 x k, l = l0 ++ [x] ∧ v = .slice (some ⟨gg, 0, none⟩) (l0.length + 1) cap ∧ fv = .func (.func F) #[] #[.pointer (some ⟨k, 0, none⟩)] ∧ (k, .cells #[.pointer (some ⟨gg, l0.length * n, none⟩)] U (0, 0)) ∈ K
/-- A closure over one pointer. -/
def PtV (F : Nat) (U : TypeId) (q : Addr) (K : Kept) (fv : Value) : Prop := ∃ k, fv = .func (.func F) #[] #[.pointer (some ⟨k, 0, none⟩)] ∧ (k, .cells #[.pointer (some q)] U (0, 0)) ∈ K
/-- .. and over a bool besides. -/
def RdV (typed : Bool) (v : Value) (l : List Rd) (K : Kept) (fv : Value) : Prop :=
  ∃ gg cap l0 x k k2, l = l0 ++ [x] ∧ v = .slice (some ⟨gg, 0, none⟩) (l0.length + 1) cap ∧ fv = .func (.func 204) #[] #[.pointer (some ⟨k, 0, none⟩), .pointer (some ⟨k2, 0, none⟩)] ∧
    (k, .cells #[.pointer (some ⟨gg, l0.length * 5, none⟩)] 247 (0, 0)) ∈ K ∧ (k2, .cells #[.bool typed] 4 (0, 0)) ∈ K
/-- The value of a form: the reader in block g, its router r, the kept blocks K. -/
def FmV (f : Fm) (g : Nat) (r : Rt) (K : Kept) (fv : Value) : Prop := match f with
  | .top => fv = .func (.func 38) #[.pointer (some ⟨g, 0, none⟩)] #[]
  | .system => fv = .func (.func 74) #[.pointer (some ⟨g, 0, none⟩)] #[]
  | .interfaces => fv = .func (.func 75) #[.pointer (some ⟨g, 0, none⟩)] #[]
  | .translations => fv = .func (.func 83) #[.pointer (some ⟨g, 0, none⟩)] #[]
  | .statics => fv = .func (.func 84) #[.pointer (some ⟨g, 0, none⟩)] #[]
  | .iface => ElV 170 173 12 r.ifsV r.ifs K fv
  | .prefixRules => ElV 123 150 2 r.listsV r.lists K fv
  | .clauses => ElV 127 154 2 r.mapsV r.maps K fv
  | .rules => ElV 130 158 2 r.aclsV r.acls K fv
  | .clause => ∃ m0 m, r.maps = m0 ++ [m] ∧ ElV 173 178 7 m.v m.clauses K fv
  | .rule => ∃ m0 m, r.acls = m0 ++ [m] ∧ ElV 175 180 10 m.v m.rules K fv
  | .static => ElV 180 189 7 r.statV r.stat K fv
  | .neighbor => ElV 186 219 4 r.nbV r.nb K fv
  | .linkState => PtV 137 163 ⟨g, 8, none⟩ K fv
  | .distance => PtV 139 165 ⟨g, 12, none⟩ K fv
  | .path => PtV 140 167 ⟨g, 17, none⟩ K fv
  | .redLS => RdV true r.lsRedV r.lsRed K fv
  | .redDV => RdV false r.dvRedV r.dvRed K fv
  | .redPV => RdV false r.pvRedV r.pvRed K fv
/-- What lists of lists keep while nodes that stand in a block are read. -/
def Stay (r r' : Rt) : Prop := r'.listsV = r.listsV ∧ r'.lists.length = r.lists.length ∧ r'.mapsV = r.mapsV ∧ r'.maps.length = r.maps.length ∧ r'.aclsV = r.aclsV ∧ r'.acls.length = r.acls.length
theorem Stay.refl (r : Rt) : Stay r r := ⟨rfl, rfl, rfl, rfl, rfl, rfl⟩
theorem Stay.trans {r r' r'' : Rt} (h : Stay r r') (h' : Stay r' r'') : Stay r r'' :=
  ⟨h'.1.trans h.1, h'.2.1.trans h.2.1, h'.2.2.1.trans h.2.2.1, h'.2.2.2.1.trans h.2.2.2.1, h'.2.2.2.2.1.trans h.2.2.2.2.1, h'.2.2.2.2.2.trans h.2.2.2.2.2⟩
theorem snoc_of {α : Type} {l l' : List α} (h : l'.length = l.length) {l0 : List α} {x : α} (e : l = l0 ++ [x]) : ∃ l1 y, l' = l1 ++ [y] ∧ l1.length = l0.length := by
  subst e
  rcases List.eq_nil_or_concat l' with rfl | ⟨l1, y, rfl⟩
  · simp at h
  · exact ⟨l1, y, by simp, by simpa using h⟩
theorem ElV.stay {α : Type} {F n : Nat} {U : TypeId} {v v' : Value} {l l' : List α} {K K' : Kept} {fv : Value} (h : ElV F U n v l K fv) (hv : v' = v) (hl : l'.length = l.length) (hK : ∀ k ∈ K, k ∈ K') : ElV F U n v' l' K' fv := by
  obtain ⟨gg, cap, l0, x, k, e1, e2, e3, e4⟩ := h
  obtain ⟨l1, y, e5, e6⟩ := snoc_of hl e1
  exact ⟨gg, cap, l1, y, k, e5, by rw [hv, e6]; exact e2, e3, by rw [e6]; exact hK _ e4⟩
/-- A form that other forms stand in. -/
def Fm.outer : Fm → Bool
  | .top | .interfaces | .clauses | .rules | .statics | .linkState | .distance | .path => true
  | _ => false
/-- Its value outlasts what is read within it. -/
theorem FmV.stay {f : Fm} {g : Nat} {r r' : Rt} {K K' : Kept} {fv : Value} (h : FmV f g r K fv) (ho : f.outer = true) (hs : Stay r r') (hK : ∀ k ∈ K, k ∈ K') : FmV f g r' K' fv := by
  cases f <;> first | cases ho; done | skip
  · exact h
  · exact h
  · exact ElV.stay h hs.2.2.1 hs.2.2.2.1 hK
  · exact ElV.stay h hs.2.2.2.2.1 hs.2.2.2.2.2 hK
  · exact h
  all_goals
    obtain ⟨k, e1, e2⟩ := h
    exact ⟨k, e1, hK _ e2⟩
/-- What a form leaves as the form of the nodes in a block. -/
def InnV (f : Fm) (inner : Option Fm) (iv : Value) (g : Nat) (r : Rt) (K : Kept) : Prop := match inner with
  | none => iv = .nilFunc
  | some h => h ≠ .top ∧ f.outer = true ∧ FmV h g r K iv
/-- What a form answers: as fmS says; its own value goes on; what it has boxed is new. -/
def FormP (f : Fm) (fv : Value) (g B : Nat) (w0 : World) (r : Rt) (K : Kept) (T : TypeId × Bool) (b : Nat) (p : Ps) (_ : World) (e : Ending) (w' : World) : Prop :=
  ∃ key inner r' p' K' iv, fmS f T.2 r.plain p = (key, inner, r'.plain, p') ∧ e = .returned (.tuple #[strV key, iv]) ∧ BW g B w0 r' (K' ++ K) T b p' w' ∧ (f ≠ .top → Stay r r') ∧ (∀ K0, FmV f g r K0 fv → FmV f g r' K0 fv) ∧ InnV f inner iv g r' K' ∧ ∀ k ∈ K', ∃ cs E, k.2 = .cells cs E (0, 0)
/-- More blocks kept. -/
theorem ElV.mono {α : Type} {F n : Nat} {U : TypeId} {v : Value} {l : List α} {K K' : Kept} {fv : Value} (h : ElV F U n v l K fv) (hK : ∀ k ∈ K, k ∈ K') : ElV F U n v l K' fv := h.stay rfl rfl hK
theorem FmV.mono {f : Fm} {g : Nat} {r : Rt} {K K' : Kept} {fv : Value} (h : FmV f g r K fv) (hK : ∀ k ∈ K, k ∈ K') : FmV f g r K' fv := by
  cases f
  all_goals first
    | exact h
    | exact ElV.mono h hK
    | (obtain ⟨k, e1, e2⟩ := h; exact ⟨k, e1, hK _ e2⟩)
    | (obtain ⟨m0, m, e, h⟩ := h; exact ⟨m0, m, e, ElV.mono h hK⟩)
    | (obtain ⟨gg, cap, l0, x, k, k2, e1, e2, e3, e4, e5⟩ := h; exact ⟨gg, cap, l0, x, k, k2, e1, e2, e3, hK _ e4, hK _ e5⟩)
/-- A function that is called by its number. -/
abbrev EG (F : Nat) : Prop := ∀ args w, (callFunc F args).run Tryz.prog w = .ok (.enter F args) w
section
variable {α : Type} {E : TypeId} {n gg cap g B b : Nat} {C : α → Array Value} {v : Value} {l0 : List α} {x : α} {K K0 : Kept} {w0 w : World} {r : Rt} {T : TypeId × Bool} {p : Ps} {pre post : List Orow}
/-- The last element of a slice of the reader as a struct by itself. -/
theorem BW.last (h : BW g B w0 r K T b p w) (e : btR r = pre ++ rowE E n C v (l0 ++ [x]) :: post) (hv : v = .slice (some ⟨gg, 0, none⟩) (l0.length + 1) cap) (hn : 0 < n) (hl : ∀ x, (C x).toList.length = n) (hK : ∀ k ∈ K0, k ∈ K) :
    ∃ cur, Ck E gg (l0.length * n) cur T b B K0 w (C x) p w ∧ ∀ (y : α) (p' : Ps) (w' : World) (r' : Rt), Ck E gg (l0.length * n) cur T b B K0 w (C y) p' w' → r'.C = r.C → btR r' = pre ++ rowE E n C v (l0 ++ [y]) :: post → BW g B w0 r' K T b p' w' := by
  have ho : OwnE w B E n C v (l0 ++ [x]) := h.own.1 (rowE E n C v (l0 ++ [x])) (by rw [e]; simp)
  obtain ⟨g', cap', cur, e1, hgB, hp, hs⟩ := ho.part hn hl (k := l0.length) (by simp)
  rw [hv] at e1
  injection e1 with e1 _ e3
  injection e1 with e1
  injection e1 with e1 _ _
  subst e1
  have hx : (l0 ++ [x])[l0.length]'(by simp) = x := by simp
  rw [hx] at hp
  have hgg : gg ∈ blks (btR r) := by
    rw [e]
    exact List.mem_filterMap.2 ⟨rowE E n C v (l0 ++ [x]), by simp, by rw [hv]; rfl⟩
  have hgne : gg ≠ g := fun e1 => h.gr (e1 ▸ hgg)
  have hbne : gg ≠ b := fun e1 => h.br (e1 ▸ hgg)
  refine ⟨cur, ⟨hp, h.st, Fr.refl _ _, hbne, hgB, Nat.le_trans h.bB h.size, fun k hk => ⟨(h.keep k (hK k hk)).1, fun e1 => (h.keep k (hK k hk)).2.2 (e1 ▸ hgg), h.kb k (hK k hk)⟩⟩, ?_⟩
  intro y p' w' r' hc eC eR
  have hset := hs w' y hc.part.1
  rw [setAtL_snoc] at hset
  have hbv : v.ownBlock = some gg := by rw [hv]; rfl
  refine h.turn (X := [rowE E n C v (l0 ++ [x])]) (X' := [rowE E n C v (l0 ++ [y])]) (post := pre ++ post) (by rw [e]; exact List.perm_middle) (by rw [eR]; exact List.perm_middle) (hc.fr.mono (fun k hk => ?_)) ?_ hc.st ⟨fun o ho' => ?_, ?_⟩ (fun k hk => .inl hk)
  · simp only [List.mem_cons, List.not_mem_nil, or_false] at hk
    rcases hk with rfl | rfl
    · exact List.mem_cons_of_mem _ (List.mem_cons_of_mem _ (List.mem_filterMap.2 ⟨rowE E n C v (l0 ++ [x]), by simp, hbv⟩))
    · simp
  · rw [eC]
    refine HasC.fr h.has hc.fr (fun hm => ?_)
    simp only [List.mem_cons, List.not_mem_nil, or_false] at hm
    exact hm.elim (fun e1 => hgne e1.symm) (fun e1 => h.gb e1)
  · obtain rfl := List.mem_singleton.1 ho'
    exact hset
  · rw [List.filterMap_cons]; split <;> simp
end
end Go.Proofs.YtmddfkpkddemnaaGreatDoor
