/- The walks of Format, FormatHost, FormatPrefix and of the reference's Dotted. Conditions: an address is a number below 2^32; the world holds Go's own tables (Env). -/
import Derived.Test.YtnhemjdmleilcaaDoorAddrQ
import Derived.Laws.IdiomStrings
namespace Go.Proofs.YtnhemjdmleilcaaDoor
open Go.RowKit

theorem Tryd.byteInfo : (Tryd.prog.info? 5).map (fun i => (i.zero, i.size, i.bytes)) = some (some (.int .u8 0), 1, 1) := by kernel_rfl
theorem own_form {w : World} {base : Nat} {e : TypeId} {size n : Nat} {v : Value} {xs : List Value} (h : w.ownsRow base e size v n xs) (hn : 0 < n) :
    ∃ g cap, v = .slice (some ⟨g, 0, none⟩) n cap ∧ base ≤ g ∧ g < w.heap.size ∧ ∀ j u, xs[j]? = some u → w.cell? ⟨g, j, none⟩ = some u := by
  obtain ⟨A, c, e1, _, _, _, h2⟩ := Slc.of_own h
  rcases h.2 with ⟨_, h0⟩ | ⟨g, cap, cur, rfl, hb, hh, _⟩
  · omega
  · obtain ⟨g', o', e2, hg, hc⟩ := h2 hn
    injection e1 with e1 _ _
    rw [← e1] at e2
    injection e2 with e2
    injection e2 with e3 e4
    subst e3 e4
    exact ⟨g, cap, rfl, hb, hg, fun j u hu => by simpa using hc j u hu⟩
def AppPost (B n : Nat) (xs : List Value) (u : Nat) (w : World) (e : Ending) (w' : World) : Prop :=
  ∃ v', e = .returned v' ∧ w'.ownsRow B 5 1 v' (n + (dec u).length) (xs ++ Lib.byteCells (dec u)) ∧ Below B w w'
theorem appendUint_any (B n u : Nat) (hu : u < 256) (sv : Value) (xs : List Value) (w : World) (he : Env w) (hown : w.ownsRow B 5 1 sv n xs) (hB : B ≤ w.heap.size) (hn : n ≤ 1000) :
    Calls Tryd.prog 98 #[sv, .int .u64 (u : Int), .int .i64 10] w (AppPost B n xs u w) := by
  have hc : Calls Tryd.prog 107 #[sv, .int .u64 (u : Int), .int .i64 10] w (AppPost B n xs u w) := by
    by_cases h : u < 100
    · refine (Tryd.internal_strconv_AppendUint_10_small B n u h sv xs w hown hB (by omega)).mono ?_
      rintro e w' ⟨v', rfl, h1, h2, _⟩
      rw [dec_lib] at h1
      exact ⟨v', rfl, h1, h2⟩
    · refine (Tryd.internal_strconv_AppendUint_10_big B n u (by omega) (by omega) sv xs w hown hB (by omega) he.2.1).mono ?_
      rintro e w' ⟨v', rfl, h1, h2, _⟩
      rw [dec_lib] at h1
      exact ⟨v', rfl, h1, h2⟩
  have HC := Lib.hid hc
  clear hc hown he
  go_enter Tryd.func98, Tryd.ntmps98
  go_wp2_with fail
  refine HC.out.mono ?_
  rintro e w' ⟨v', rfl, h1, h2⟩
  go_wp2_with fail
  go_ret
  exact ⟨v', rfl, h1, h2⟩
theorem and255 (x : Nat) (h : x < 4294967296) : bits .and .u32 (x : Int) 255 = ((x % 256 : Nat) : Int) := by
  have := u32_and_nat x 255 h (by omega)
  rw [show ((255 : Nat) : Int) = 255 from rfl] at this
  rw [this, show (255 : Nat) = 2 ^ 8 - 1 from rfl, Nat.and_two_pow_sub_one_eq_mod]
theorem byte0 {a : Nat} (h : a < 4294967296) : bits .and .u32 ((a : Int) / 16777216) 255 = (byteA a 0 : Int) := by
  have := and255 (a / 16777216) (by omega)
  rw [show ((a / 16777216 : Nat) : Int) = (a : Int) / 16777216 from by omega] at this
  rw [this]; rfl
theorem byte1 {a : Nat} (h : a < 4294967296) : bits .and .u32 ((a : Int) / 65536) 255 = (byteA a 1 : Int) := by
  have := and255 (a / 65536) (by omega)
  rw [show ((a / 65536 : Nat) : Int) = (a : Int) / 65536 from by omega] at this
  rw [this]; rfl
theorem byte2 {a : Nat} (h : a < 4294967296) : bits .and .u32 ((a : Int) / 256) 255 = (byteA a 2 : Int) := by
  have := and255 (a / 256) (by omega)
  rw [show ((a / 256 : Nat) : Int) = (a : Int) / 256 from by omega] at this
  rw [this]; rfl
theorem byte3 {a : Nat} (h : a < 4294967296) : bits .and .u32 (a : Int) 255 = (byteA a 3 : Int) := by
  have := and255 a h
  rw [this]; simp [byteA]
theorem byteTop {a : Nat} (h : a < 4294967296) : (a : Int) / 16777216 = (byteA a 0 : Int) := by
  unfold byteA
  simp
  omega
theorem cells_app (a b : List UInt8) : Lib.byteCells (a ++ b) = Lib.byteCells a ++ Lib.byteCells b := by simp [Lib.byteCells]
theorem cells_len (a : List UInt8) : (Lib.byteCells a).length = a.length := by simp [Lib.byteCells]
theorem fmt_first (a : Nat) : fmtTo a 1 = fmtTo a 0 ++ dec (byteA a 0) := by simp [fmtTo]
theorem fmt_next (a k : Nat) (hk : 0 < k) : fmtTo a (k + 1) = (fmtTo a k ++ [46]) ++ dec (byteA a k) := by
  rw [fmtTo, if_neg (by omega)]
theorem one_int (n : Int) : ∀ u ∈ (#[Value.int .u8 n] : Array Value).toList, u.oneCell' = true := by
  intro u hu; simp at hu; subst hu; rfl
def FmtRel (a : Nat) (w : World) (k : Nat) (v : Value) (wr : World) : Prop := wr.ownsRow w.heap.size 5 1 v (fmtTo a k).length (Lib.byteCells (fmtTo a k)) ∧ Below w.heap.size w wr
theorem fmtRel_first {a : Nat} {w wr w' : World} {v v' : Value} (h : FmtRel a w 0 v wr) (h1 : w'.ownsRow w.heap.size 5 1 v' ((fmtTo a 0).length + (dec (byteA a 0)).length) (Lib.byteCells (fmtTo a 0) ++ Lib.byteCells (dec (byteA a 0)))) (h2 : Below w.heap.size wr w') : FmtRel a w 1 v' w' := by
  refine ⟨?_, h.2.trans h2⟩
  rw [fmt_first, cells_app, List.length_append]; exact h1
theorem fmtRel_next {a k : Nat} (hk : 0 < k) {w w0 w1 w' : World} {v v' : Value} (h : FmtRel a w k v w0) (hb : Below w.heap.size w0 w1)
    (h1 : w'.ownsRow w.heap.size 5 1 v' ((fmtTo a k).length + 1 + (dec (byteA a k)).length) ((Lib.byteCells (fmtTo a k) ++ [Value.int .u8 46]) ++ Lib.byteCells (dec (byteA a k)))) (h2 : Below w.heap.size w1 w') : FmtRel a w (k + 1) v' w' := by
  refine ⟨?_, (h.2.trans hb).trans h2⟩
  rw [fmt_next a k hk, cells_app, cells_app, List.length_append, List.length_append]; exact h1

set_option maxRecDepth 4000 in
set_option maxHeartbeats 2000000 in
theorem format_any (a : Nat) (w : World) (ha : a < 4294967296) (he : Env w) : Calls Tryd.prog 89 #[.int .u32 (a : Int)] w fun e w' => e = .returned (.string (str (fmtA a))) ∧ Below w.heap.size w w' := by
  obtain ⟨i0, hi0, hz0, hz1, hz2⟩ := info_parts Tryd.byteInfo
  have Hi0 := Lib.hid hi0
  have Hz0 := Lib.hid hz0
  have Hz1 := Lib.hid hz1
  have Hz2 := Lib.hid hz2
  clear hi0 hz0 hz1 hz2
  have hmk : ∀ w, (Instr.makeSlice 40 (.int .i64 0) (.int .i64 15)).run Tryd.prog w = .ok (.slice (some ⟨w.heap.size, 0, none⟩) 0 15) (w.alloc (.cells (madeCells #[.int .u8 0] 15) 5)) := fun _ => by kernel_rfl
  have HE := Lib.hid he
  have E0 := byte0 ha
  have E1 := byte1 ha
  have E2 := byte2 ha
  have E3 := byte3 ha
  have b0 := byteA_lt a 0
  have b1 := byteA_lt a 1
  have b2 := byteA_lt a 2
  have b3 := byteA_lt a 3
  clear he
  go_enter Tryd.func89, Tryd.ntmps89
  go_wp2_with fail
  clear hmk
  go_loopg [3, 4] 4 (fun g v i wr => ((g = 4 ∧ i = .int .i64 24 ∧ Hid (FmtRel a w 0 v wr)) ∨ (g = 3 ∧ i = .int .i64 16 ∧ Hid (FmtRel a w 1 v wr)) ∨ (g = 2 ∧ i = .int .i64 8 ∧ Hid (FmtRel a w 2 v wr)) ∨ (g = 1 ∧ i = .int .i64 0 ∧ Hid (FmtRel a w 3 v wr)) ∨ (g = 0 ∧ i = .int .i64 (-8) ∧ Hid (FmtRel a w 4 v wr))))
  case atStart =>
    refine .inl ⟨rfl, rfl, Lib.hid ⟨?_, (Below.refl _ _).alloc (Nat.le_refl _) _⟩⟩
    exact World.ownsRow_made w _ 15 (Nat.le_refl _) (by decide) (by simp [madeCells])
  case round =>
    rcases hrel with ⟨hg, rfl, H⟩ | ⟨hg, rfl, H⟩ | ⟨hg, rfl, H⟩ | ⟨hg, rfl, H⟩ | ⟨hg, rfl, H⟩
    · go_wp2_with fail
      refine (appendUint_any w.heap.size _ _ b0 _ _ _ (HE.out.below H.out.2) H.out.1 H.out.2.size (by have := fmtTo_len a 0; omega)).mono ?_
      rintro e w1 ⟨v1, rfl, ho1, hb1⟩
      go_wp2_with fail
      go_roundg 3
      case measure => omega
      case rel => exact .inr (.inl ⟨rfl, rfl, Lib.hid (fmtRel_first H.out ho1 hb1)⟩)
    · have hsz := H.out.2.size
      have hln := fmtTo_len a 1
      go_wp2_with (first | (at_builtin; refine wpList_append1 _ rfl _ _ 40 rfl w.heap.size 5 i0 _ 1 1 Tryd.underlying40 Hi0.out Hz0.out Hz1.out Hz2.out rfl (by decide) _ _ _ rfl H.out.1 #[.int .u8 46] rfl rfl (one_int _) (by omega) (by decide) hsz ?_; intro v0 w0 ho0 hb0))
      refine (appendUint_any w.heap.size _ _ b1 _ _ _ (HE.out.below (H.out.2.trans hb0)) ho0 (Nat.le_trans hsz hb0.size) (by omega)).mono ?_
      rintro e w1 ⟨v1, rfl, ho1, hb1⟩
      go_wp2_with fail
      go_roundg 2
      case measure => omega
      case rel => exact .inr (.inr (.inl ⟨rfl, rfl, Lib.hid (fmtRel_next (by omega) H.out hb0 ho1 hb1)⟩))
    · have hsz := H.out.2.size
      have hln := fmtTo_len a 2
      go_wp2_with (first | (at_builtin; refine wpList_append1 _ rfl _ _ 40 rfl w.heap.size 5 i0 _ 1 1 Tryd.underlying40 Hi0.out Hz0.out Hz1.out Hz2.out rfl (by decide) _ _ _ rfl H.out.1 #[.int .u8 46] rfl rfl (one_int _) (by omega) (by decide) hsz ?_; intro v0 w0 ho0 hb0))
      refine (appendUint_any w.heap.size _ _ b2 _ _ _ (HE.out.below (H.out.2.trans hb0)) ho0 (Nat.le_trans hsz hb0.size) (by omega)).mono ?_
      rintro e w1 ⟨v1, rfl, ho1, hb1⟩
      go_wp2_with fail
      go_roundg 1
      case measure => omega
      case rel => exact .inr (.inr (.inr (.inl ⟨rfl, rfl, Lib.hid (fmtRel_next (by omega) H.out hb0 ho1 hb1)⟩)))
    · have hsz := H.out.2.size
      have hln := fmtTo_len a 3
      go_wp2_with (first | (at_builtin; refine wpList_append1 _ rfl _ _ 40 rfl w.heap.size 5 i0 _ 1 1 Tryd.underlying40 Hi0.out Hz0.out Hz1.out Hz2.out rfl (by decide) _ _ _ rfl H.out.1 #[.int .u8 46] rfl rfl (one_int _) (by omega) (by decide) hsz ?_; intro v0 w0 ho0 hb0))
      refine (appendUint_any w.heap.size _ _ b3 _ _ _ (HE.out.below (H.out.2.trans hb0)) ho0 (Nat.le_trans hsz hb0.size) (by omega)).mono ?_
      rintro e w1 ⟨v1, rfl, ho1, hb1⟩
      go_wp2_with fail
      go_roundg 0
      case measure => omega
      case rel => exact .inr (.inr (.inr (.inr ⟨rfl, rfl, Lib.hid (fmtRel_next (by omega) H.out hb0 ho1 hb1)⟩)))
    · have hpos : 0 < (fmtTo a 4).length := by
        rw [fmt_next a 3 (by omega)]; simp; omega
      obtain ⟨gb, cap, ev, _, _, hc⟩ := own_form H.out.1 hpos
      have hb := Lib.hid H.out.2
      clear H
      have hconv : (convert 40 9 (.slice (some ⟨gb, 0, none⟩) (fmtTo a 4).length cap)).run Tryd.prog wr = .ok (.string (str (fmtA a))) wr := by
        refine run_convert_bytes_back (P := Tryd.prog) wr 40 9 5 ⟨gb, 0, none⟩ cap (fmtTo a 4) Tryd.underlying40 Tryd.underlying5 Tryd.underlying9 (fun j hj => ?_)
        rw [addr_add, Nat.zero_add]
        exact hc j _ (by simp [Lib.byteCells, hj])
      subst ev
      clear hc
      go_wp2_with fail
      go_ret
      exact ⟨rfl, hb.out⟩
end Go.Proofs.YtnhemjdmleilcaaDoor
