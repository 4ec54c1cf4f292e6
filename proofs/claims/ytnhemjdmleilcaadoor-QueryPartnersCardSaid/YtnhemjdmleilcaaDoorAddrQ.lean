/- The walks of Parse and of the reference's Address. Conditions: the text has at most 10^9 bytes; the world holds Go's own tables (Env). -/
import Derived.Test.YtnhemjdmleilcaaDoorAddrP
import Derived.Test.YtnhemjdmleilcaaDoorAddrR
import Derived.Test.YtnhemjdmleilcaaDoorShelf
import Derived.WalkSmall
import Derived.Lib.LaidTab
namespace Go.Proofs.YtnhemjdmleilcaaDoor
open Go.RowKit

theorem Tryd.gMax : Tryd.prog.globalNamed "internal/bytealg.MaxLen" = some 1 := by kernel_rfl
theorem Tryd.gPow : Tryd.prog.globalNamed "internal/strconv.uint64pow10" = some 2 := by kernel_rfl
/-- What the walks ask of the library's own variables. -/
def Env (w : World) : Prop := (∃ m, w.cell? ⟨1, 0, none⟩ = some (.int .i64 m)) ∧ Lib.TabIs Tryd.prog w "internal/strconv.uint64pow10" .u64 Lib.pow10Tab ∧ 1 < w.heap.size ∧ 2 < w.heap.size
theorem Env.below {w w' : World} (h : Env w) (hb : Below w.heap.size w w') : Env w' := by
  obtain ⟨⟨m, hm⟩, ht, h1, h2⟩ := h
  refine ⟨⟨m, ?_⟩, var?_below hb Tryd.gPow h2 ht, Nat.lt_of_lt_of_le h1 hb.size, Nat.lt_of_lt_of_le h2 hb.size⟩
  rw [hb.cell (p := ⟨1, 0, none⟩) h1]
  exact hm

/-- strings.Split at a dot. -/
theorem splitDot_any (s : ByteArray) (w : World) (he : Env w) (hs : s.size ≤ 1000000000) : Calls Tryd.prog 114 #[.string s, .string ⟨#[46]⟩] w fun e w' =>
    e = .returned (.slice (some ⟨w.heap.size, 0, none⟩) (dots (bytes s)).length (dots (bytes s)).length) ∧ w.alloc (.cells ((dots (bytes s)).map strV).toArray 9) = w' := by
  obtain ⟨⟨m, hm⟩, _⟩ := he
  refine (Tryd.strings_Split s ⟨#[46]⟩ m w (by omega) hm (by decide)).mono ?_
  rintro e w' ⟨rfl, rfl⟩
  have e1 : Lib.countB s ⟨#[46]⟩ + 1 = (dots (bytes s)).length := count_dots (bytes s)
  have e2 : (Lib.splitB ⟨#[46]⟩ 0 (Lib.countB s ⟨#[46]⟩) s).map Value.string = (dots (bytes s)).map strV := by
    have h := Lib.splitB_data ⟨#[46]⟩ 0 (Lib.countB s ⟨#[46]⟩) s
    have h2 : Lib.splitK [46] 0 (Lib.count (bytes s) [46]) (bytes s) = dots (bytes s) := split_dots _ _ (Nat.le_refl _)
    have h3 : (Lib.splitB ⟨#[46]⟩ 0 (Lib.countB s ⟨#[46]⟩) s).map bytes = dots (bytes s) := h.trans h2
    rw [← h3, List.map_map]
    apply List.map_congr_left
    intro x _
    show Value.string x = .string (str (bytes x))
    rw [str_bytes]
  rw [e1, e2]
  exact ⟨rfl, rfl⟩
def ParsePost (o : Option Nat) (w : World) (e : Ending) (w' : World) : Prop := e = .returned (.tuple #[.int .u32 ((o.getD 0 : Nat) : Int), .bool o.isSome]) ∧ Below w.heap.size w w'
theorem parsePost_none {o : Option Nat} {w w' : World} (h : o = none) (hb : Below w.heap.size w w') : ParsePost o w (.returned (.tuple #[.int .u32 0, .bool false])) w' := by
  subst h; exact ⟨rfl, hb⟩
theorem parsePost_some {o : Option Nat} {a : Nat} {w w' : World} (h : o = some a) (hb : Below w.heap.size w w') : ParsePost o w (.returned (.tuple #[.int .u32 (a : Int), .bool true])) w' := by
  subst h; exact ⟨rfl, hb⟩
theorem octs_no {p : List UInt8} {r : List (List UInt8)} {a : Nat} (h : numIn p 0 255 = none) : octs (p :: r) a = none := by simp only [octs, h]
theorem octs_yes {p : List UInt8} {r : List (List UInt8)} {a v : Nat} (h : numIn p 0 255 = some (v : Int)) : octs (p :: r) a = octs r (oct a v) := by simp only [octs, h, Int.toNat_natCast]
theorem num_255 (l : List UInt8) : numIn l 0 255 = none ∨ ∃ v : Nat, numIn l 0 255 = some (v : Int) ∧ v ≤ 255 := by
  cases h : numIn l 0 255 with
  | none => exact .inl rfl
  | some v =>
    have := numIn_bd h
    exact .inr ⟨v.toNat, by congr 1; omega, by omega⟩
theorem number_none {s : ByteArray} {lo hi : Int} (h : numIn (bytes s) lo hi = none) (w : World) : Calls Tryd.prog 87 #[.string s, .int .i64 lo, .int .i64 hi] w fun e w' => e = .returned (.tuple #[.int .i64 0, .bool false]) ∧ w = w' := by
  refine (number_any s lo hi w).mono ?_
  rw [h]
  rintro e w' ⟨rfl, rfl⟩
  exact ⟨rfl, rfl⟩
theorem number_some {s : ByteArray} {lo hi v : Int} (h : numIn (bytes s) lo hi = some v) (w : World) : Calls Tryd.prog 87 #[.string s, .int .i64 lo, .int .i64 hi] w fun e w' => e = .returned (.tuple #[.int .i64 v, .bool true]) ∧ w = w' := by
  refine (number_any s lo hi w).mono ?_
  rw [h]
  rintro e w' ⟨rfl, rfl⟩
  exact ⟨rfl, rfl⟩
theorem rnumber_none {s : ByteArray} {lo hi : Int} (h : numIn (bytes s) lo hi = none) (w : World) : Calls Tryd.prog 81 #[.string s, .int .i64 lo, .int .i64 hi] w fun e w' => e = .returned (.tuple #[.int .i64 0, .bool false]) ∧ w = w' := by
  refine (rnumber_any s lo hi w).mono ?_
  rw [h]
  rintro e w' ⟨rfl, rfl⟩
  exact ⟨rfl, rfl⟩
theorem rnumber_some {s : ByteArray} {lo hi v : Int} (h : numIn (bytes s) lo hi = some v) (w : World) : Calls Tryd.prog 81 #[.string s, .int .i64 lo, .int .i64 hi] w fun e w' => e = .returned (.tuple #[.int .i64 v, .bool true]) ∧ w = w' := by
  refine (rnumber_any s lo hi w).mono ?_
  rw [h]
  rintro e w' ⟨rfl, rfl⟩
  exact ⟨rfl, rfl⟩

set_option maxRecDepth 4000 in
set_option maxHeartbeats 1000000 in
theorem parse_any (s : ByteArray) (w : World) (he : Env w) (hs : s.size ≤ 1000000000) : Calls Tryd.prog 106 #[.string s] w (ParsePost (parseA (bytes s)) w) := by
  have HC := Lib.hid (splitDot_any s w he hs)
  have hcell : ∀ k (h : k < (dots (bytes s)).length), (w.alloc (.cells ((dots (bytes s)).map strV).toArray 9)).cell? ⟨w.heap.size, k, none⟩ = some (.string (str (dots (bytes s))[k])) := fun k h => by
    rw [new_cell]; simp [h, strV]
  have HCell := Lib.hid hcell
  have hbw : Below w.heap.size w (w.alloc (.cells ((dots (bytes s)).map strV).toArray 9)) := (Below.refl _ _).alloc (Nat.le_refl _) _
  have HB := Lib.hid hbw
  have HP : Hid (parseA (bytes s) = if (dots (bytes s)).length = 4 then octs (dots (bytes s)) 0 else none) := Lib.hid rfl
  clear he hcell hbw
  generalize dots (bytes s) = ps at *
  generalize hw1 : w.alloc (.cells (ps.map strV).toArray 9) = w1 at *
  clear hw1
  by_cases h4 : ps.length = 4
  · have HN : Hid (parseA (bytes s) = octs (ps.drop 0) 0) := Lib.hid (by rw [HP.out, if_pos h4, List.drop_zero])
    rw [h4] at HC
    have H4 := Lib.hid h4
    clear h4 HP
    go_enter Tryd.func106, Tryd.ntmps106
    go_wp2_with fail
    refine HC.out.mono ?_
    rintro e w' ⟨rfl, rfl⟩
    go_wp2_with fail
    go_loopg [5, 17] 4 (fun g v i wr => ∃ k a : Nat, k + g = 4 ∧ a < 4294967296 ∧ i = .int .i64 k ∧ v = .int .u32 (a : Int) ∧ wr = w1 ∧ Hid (parseA (bytes s) = octs (ps.drop k) a))
    case atStart => exact ⟨0, 0, by omega, by omega, rfl, rfl, rfl, HN⟩
    case round =>
      obtain ⟨k, a, hk, ha, rfl, rfl, ew, H⟩ := hrel
      subst ew
      by_cases hlt : k < 4
      · have hl : k < ps.length := by rw [H4.out]; exact hlt
        have c1 := HCell.out k hl
        have HD := Lib.hid (list_step ps k hl)
        generalize ps[k] = p at c1 HD
        clear hl
        rcases num_255 p with hn | ⟨v, hn, hv⟩
        · have HF : Hid (parseA (bytes s) = none) := Lib.hid (by rw [H.out, HD.out, octs_no hn])
          have HNN := Lib.hid hn
          clear hn
          go_wp2_with (first | (go_at_call 87; refine (number_none (s := str p) (by rw [bytes_str]; exact HNN.out) _).mono ?_; rintro e w' ⟨rfl, rfl⟩))
          go_ret2
          exact parsePost_none HF.out HB.out
        · have HF : Hid (parseA (bytes s) = octs (ps.drop (k + 1)) (oct a v)) := Lib.hid (by rw [H.out, HD.out, octs_yes hn])
          have HNN := Lib.hid hn
          have E := i_oct ha hv
          have ho := oct_lt (a := a) hv
          clear hn
          go_wp2_with (first | (go_at_call 87; refine (number_some (s := str p) (v := (v : Int)) (by rw [bytes_str]; exact HNN.out) _).mono ?_; rintro e w' ⟨rfl, rfl⟩))
          go_roundg (4 - (k + 1))
          case measure => omega
          case rel => exact ⟨k + 1, oct a v, by omega, ho, by go_num, rfl, rfl, HF⟩
      · have HF : Hid (parseA (bytes s) = some a) := Lib.hid (by rw [H.out, List.drop_eq_nil_of_le (by rw [H4.out]; omega)]; rfl)
        go_wp2_with fail
        go_ret2
        exact parsePost_some HF.out HB.out
  · have HN : Hid (parseA (bytes s) = none) := Lib.hid (by rw [HP.out, if_neg h4])
    have d : ((ps.length : Int) != 4) = true := by simp; omega
    go_enter Tryd.func106, Tryd.ntmps106
    go_wp2_with fail
    refine HC.out.mono ?_
    rintro e w' ⟨rfl, rfl⟩
    go_wp2_with fail
    go_ret2
    exact parsePost_none HN.out HB.out

theorem dot_on (s : ByteArray) (f k : Nat) (hf : f ≤ k) (h : k < s.size) (hc : ((s[k].toNat : Int) != 46) = true) : dotGo (sub (bytes s) f k) ((bytes s).drop k) = dotGo (sub (bytes s) f (k + 1)) ((bytes s).drop (k + 1)) := by
  rw [drop_step s k h, dotGo, if_neg (by simpa using hc), sub_snoc s f k hf h]
theorem dot_hit (s : ByteArray) (f k : Nat) (h : k < s.size) (hc : ((s[k].toNat : Int) != 46) = false) : dotGo (sub (bytes s) f k) ((bytes s).drop k) = sub (bytes s) f k :: dotGo (sub (bytes s) (k + 1) (k + 1)) ((bytes s).drop (k + 1)) := by
  rw [drop_step s k h, dotGo, if_pos (by simpa using hc), sub_self]
theorem dot_last (s : ByteArray) (f k : Nat) (h : ¬ k < s.size) : dotGo (sub (bytes s) f k) ((bytes s).drop k) = [sub (bytes s) f k] := by
  rw [drop_end s k h]; rfl
theorem rocts_no {p : List UInt8} {r : List (List UInt8)} {k a : Nat} (h : numIn p 0 255 = none) : rocts k a (p :: r) = none := by simp only [rocts, h]
theorem rocts_full {p : List UInt8} {r : List (List UInt8)} {a v : Nat} (h : numIn p 0 255 = some (v : Int)) : rocts 4 a (p :: r) = none := by simp only [rocts, h]; rfl
theorem rocts_yes {p : List UInt8} {r : List (List UInt8)} {k a v : Nat} (h : numIn p 0 255 = some (v : Int)) (hk : k ≠ 4) : rocts k a (p :: r) = rocts (k + 1) (oct a v) r := by simp only [rocts, h, if_neg hk, Int.toNat_natCast]

set_option maxRecDepth 4000 in
set_option maxHeartbeats 1000000 in
theorem rparse_any (s : ByteArray) (w : World) (hs : s.size ≤ 1000000000) : Calls Tryd.prog 97 #[.string s] w (ParsePost (parseA (bytes s)) w) := by
  have H0 : Hid (parseA (bytes s) = rocts 0 0 (dotGo (sub (bytes s) 0 0) ((bytes s).drop 0))) := Lib.hid (by rw [parse_rocts, sub_self, List.drop_zero]; rfl)
  go_enter Tryd.func97, Tryd.ntmps97
  go_wp2_with fail
  go_loopg [4, 5, 6, 7] (s.size + 1) (fun g v f t i wr => ∃ k fr pt a : Nat, k + g = s.size + 1 ∧ a < 4294967296 ∧ pt ≤ 4 ∧ i = .int .i64 k ∧ f = .int .i64 fr ∧ t = .int .i64 pt ∧ v = .int .u32 (a : Int) ∧ wr = w ∧
    Hid ((k ≤ s.size ∧ fr ≤ k ∧ parseA (bytes s) = rocts pt a (dotGo (sub (bytes s) fr k) ((bytes s).drop k))) ∨ (k = s.size + 1 ∧ parseA (bytes s) = rocts pt a [])))
  case atStart => exact ⟨0, 0, 0, 0, by omega, by omega, by omega, rfl, rfl, rfl, rfl, rfl, Lib.hid (.inl ⟨by omega, by omega, H0.out⟩)⟩
  case round =>
    obtain ⟨k, fr, pt, a, hk, ha, hpt, rfl, rfl, rfl, rfl, ew, H⟩ := hrel
    subst ew
    rcases H.out with ⟨hks, hfr, hP⟩ | ⟨hks, hP⟩
    · have HP := Lib.hid hP
      clear hP H
      by_cases hlt : k < s.size
      · cases hc : ((s[k].toNat : Int) != 46) with
        | true =>
          have E := Lib.hid (dot_on s fr k hfr hlt hc)
          go_wp2_with fail
          go_roundg (s.size + 1 - (k + 1))
          case measure => omega
          case rel => exact ⟨k + 1, fr, pt, a, by omega, ha, hpt, by go_num, rfl, rfl, rfl, rfl, Lib.hid (.inl ⟨by omega, by omega, by rw [HP.out, E.out]⟩)⟩
        | false =>
          have E := Lib.hid (dot_hit s fr k hlt hc)
          rcases num_255 (sub (bytes s) fr k) with hn | ⟨v, hn, hv⟩
          · have HF : Hid (parseA (bytes s) = none) := Lib.hid (by rw [HP.out, E.out, rocts_no hn])
            have HNN := Lib.hid hn
            clear hn
            go_wp2_with (first | (go_at_call 81; refine (rnumber_none (s := s.extract fr k) (by rw [ext_eq, bytes_str]; exact HNN.out) _).mono ?_; rintro e w' ⟨rfl, rfl⟩))
            go_ret2
            exact parsePost_none HF.out (Below.refl _ _)
          · have HNN := Lib.hid hn
            clear hn
            by_cases h4 : pt = 4
            · subst h4
              have HF : Hid (parseA (bytes s) = none) := Lib.hid (by rw [HP.out, E.out, rocts_full HNN.out])
              go_wp2_with (first | (go_at_call 81; refine (rnumber_some (s := s.extract fr k) (v := (v : Int)) (by rw [ext_eq, bytes_str]; exact HNN.out) _).mono ?_; rintro e w' ⟨rfl, rfl⟩))
              go_ret2
              exact parsePost_none HF.out (Below.refl _ _)
            · have HF := Lib.hid ((HP.out.trans (congrArg _ E.out)).trans (rocts_yes HNN.out h4))
              have E2 := i_oct ha hv
              have ho := oct_lt (a := a) hv
              have d4 : ((pt : Int) == 4) = false := by simp; omega
              go_wp2_with (first | (go_at_call 81; refine (rnumber_some (s := s.extract fr k) (v := (v : Int)) (by rw [ext_eq, bytes_str]; exact HNN.out) _).mono ?_; rintro e w' ⟨rfl, rfl⟩))
              go_roundg (s.size + 1 - (k + 1))
              case measure => omega
              case rel => exact ⟨k + 1, k + 1, pt + 1, oct a v, by omega, ho, by omega, by go_num, by go_num, by go_num, rfl, rfl, Lib.hid (.inl ⟨by omega, by omega, HF.out⟩)⟩
      · have E := Lib.hid (dot_last s fr k hlt)
        rcases num_255 (sub (bytes s) fr k) with hn | ⟨v, hn, hv⟩
        · have HF : Hid (parseA (bytes s) = none) := Lib.hid (by rw [HP.out, E.out, rocts_no hn])
          have HNN := Lib.hid hn
          clear hn
          go_wp2_with (first | (go_at_call 81; refine (rnumber_none (s := s.extract fr k) (by rw [ext_eq, bytes_str]; exact HNN.out) _).mono ?_; rintro e w' ⟨rfl, rfl⟩))
          go_ret2
          exact parsePost_none HF.out (Below.refl _ _)
        · have HNN := Lib.hid hn
          clear hn
          by_cases h4 : pt = 4
          · subst h4
            have HF : Hid (parseA (bytes s) = none) := Lib.hid (by rw [HP.out, E.out, rocts_full HNN.out])
            go_wp2_with (first | (go_at_call 81; refine (rnumber_some (s := s.extract fr k) (v := (v : Int)) (by rw [ext_eq, bytes_str]; exact HNN.out) _).mono ?_; rintro e w' ⟨rfl, rfl⟩))
            go_ret2
            exact parsePost_none HF.out (Below.refl _ _)
          · have HF := Lib.hid ((HP.out.trans (congrArg _ E.out)).trans (rocts_yes HNN.out h4))
            have E2 := i_oct ha hv
            have ho := oct_lt (a := a) hv
            have d4 : ((pt : Int) == 4) = false := by simp; omega
            go_wp2_with (first | (go_at_call 81; refine (rnumber_some (s := s.extract fr k) (v := (v : Int)) (by rw [ext_eq, bytes_str]; exact HNN.out) _).mono ?_; rintro e w' ⟨rfl, rfl⟩))
            go_roundg (s.size + 1 - (k + 1))
            case measure => omega
            case rel => exact ⟨k + 1, k + 1, pt + 1, oct a v, by omega, ho, by omega, by go_num, by go_num, by go_num, rfl, rfl, Lib.hid (.inr ⟨by omega, HF.out⟩)⟩
    · have HP := Lib.hid hP
      clear hP H
      by_cases h4 : pt = 4
      · subst h4
        have HF : Hid (parseA (bytes s) = some a) := Lib.hid (by rw [HP.out]; rfl)
        go_wp2_with fail
        go_ret2
        exact parsePost_some HF.out (Below.refl _ _)
      · have HF : Hid (parseA (bytes s) = none) := Lib.hid (by rw [HP.out, rocts, if_neg h4])
        have d4 : ((pt : Int) != 4) = true := by simp; omega
        go_wp2_with fail
        go_ret2
        exact parsePost_none HF.out (Below.refl _ _)
end Go.Proofs.YtnhemjdmleilcaaDoor
