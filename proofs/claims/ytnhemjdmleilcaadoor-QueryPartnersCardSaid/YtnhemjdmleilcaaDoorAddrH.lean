/- The walks of Dotted, FormatHost, FormatPrefix, ParseHost, ParsePrefix and of the reference's Host and ReadPrefix. Conditions: as before. -/
import Derived.Test.YtnhemjdmleilcaaDoorAddrF
namespace Go.Proofs.YtnhemjdmleilcaaDoor
open Go.RowKit

theorem dot_app (l : List UInt8) : str l ++ (⟨#[46]⟩ : ByteArray) = str (l ++ [46]) := str_app l [46]
theorem fmtA_eq (a : Nat) : fmtA a = dec (byteA a 0) ++ [46] ++ dec (byteA a 1) ++ [46] ++ dec (byteA a 2) ++ [46] ++ dec (byteA a 3) := by
  simp [fmtA, fmtTo]
theorem sz3 {n : Nat} (h : n < 256) : (str (dec n)).size ≤ 3 := by rw [str_size]; exact dec3 h
theorem decI_any (x : Int) (n : Nat) (h : x = (n : Int)) (hn : n < 256) (w : World) : Calls Tryd.prog 59 #[.int .i64 x] w fun e w' => e = .returned (.string (str (dec n))) ∧ w = w' := by
  subst h; exact decimal_any n w (by omega)

set_option maxRecDepth 4000 in
set_option maxHeartbeats 1000000 in
theorem dotted_any (a : Nat) (w : World) (ha : a < 4294967296) : Calls Tryd.prog 91 #[.int .u32 (a : Int)] w fun e w' => e = .returned (.string (str (fmtA a))) ∧ w = w' := by
  have T := Lib.hid (byteTop ha)
  have E1 := byte1 ha
  have E2 := byte2 ha
  have E3 := byte3 ha
  have b0 := byteA_lt a 0
  have b1 := byteA_lt a 1
  have b2 := byteA_lt a 2
  have b3 := byteA_lt a 3
  have s0 := sz3 b0
  have s1 := sz3 b1
  have s2 := sz3 b2
  have s3 := sz3 b3
  have F := Lib.hid (fmtA_eq a)
  go_enter Tryd.func91, Tryd.ntmps91
  go_wp2_with fail
  refine (decI_any _ (byteA a 0) T.out b0 _).mono ?_
  rintro e w' ⟨rfl, rfl⟩
  go_wp2_with fail
  refine (decI_any _ (byteA a 1) rfl b1 _).mono ?_
  rintro e w' ⟨rfl, rfl⟩
  rw [dot_app]
  have s4 : (str (dec (byteA a 0) ++ [46])).size ≤ 4 := by rw [str_size] at s0 ⊢; simp; omega
  generalize hx : dec (byteA a 0) ++ [46] = x1 at *
  have X1 := Lib.hid hx
  clear hx
  go_wp2_with fail
  refine (decI_any _ (byteA a 2) rfl b2 _).mono ?_
  rintro e w' ⟨rfl, rfl⟩
  rw [str_app, dot_app]
  have s5 : (str (x1 ++ dec (byteA a 1) ++ [46])).size ≤ 8 := by rw [str_size] at s4 s1 ⊢; simp; omega
  generalize hx : x1 ++ dec (byteA a 1) ++ [46] = x2 at *
  have X2 := Lib.hid hx
  clear hx
  go_wp2_with fail
  refine (decI_any _ (byteA a 3) rfl b3 _).mono ?_
  rintro e w' ⟨rfl, rfl⟩
  rw [str_app, dot_app]
  have s6 : (str (x2 ++ dec (byteA a 2) ++ [46])).size ≤ 12 := by rw [str_size] at s5 s2 ⊢; simp; omega
  generalize hx : x2 ++ dec (byteA a 2) ++ [46] = x3 at *
  have X3 := Lib.hid hx
  clear hx
  go_wp2_with fail
  go_ret
  refine ⟨?_, rfl⟩
  have e : fmtA a = x3 ++ dec (byteA a 3) := by rw [F.out, ← X3.out, ← X2.out, ← X1.out]
  rw [e, ← str_app]; rfl

theorem itoa_any (m : Nat) (h : m < 100) (w : World) : Calls Tryd.prog 55 #[.int .i64 (m : Int)] w fun e w' => e = .returned (.string (str (dec m))) ∧ w = w' := by
  refine (Tryd.strconv_Itoa_small m h w).mono ?_
  rintro e w' ⟨rfl, rfl⟩
  rw [dec_lib]
  exact ⟨rfl, rfl⟩
/-- The written form of an address with a length; empty if the length is none. -/
def hostF (a : Nat) (n : Int) : List UInt8 := if 0 ≤ n ∧ n ≤ 32 then fmtA a ++ [47] ++ dec n.toNat else []
theorem fmtA_len (a : Nat) : (fmtA a).length ≤ 16 := fmtTo_len a 4
theorem slash_app (l : List UInt8) : str l ++ (⟨#[47]⟩ : ByteArray) = str (l ++ [47]) := str_app l [47]

set_option maxRecDepth 4000 in
set_option maxHeartbeats 1000000 in
theorem formatHost_any (a : Nat) (n : Int) (w : World) (ha : a < 4294967296) (he : Env w) : Calls Tryd.prog 82 #[.int .u32 (a : Int), .int .i64 n] w fun e w' => e = .returned (.string (str (hostF a n))) ∧ Below w.heap.size w w' := by
  by_cases h0 : n < 0
  · have E : Hid (hostF a n = []) := Lib.hid (by unfold hostF; rw [if_neg (by omega)])
    go_enter Tryd.func82, Tryd.ntmps82
    go_wp2_with fail
    go_ret
    exact ⟨by rw [E.out]; rfl, Below.refl _ _⟩
  by_cases h1 : 32 < n
  · have E : Hid (hostF a n = []) := Lib.hid (by unfold hostF; rw [if_neg (by omega)])
    go_enter Tryd.func82, Tryd.ntmps82
    go_wp2_with fail
    go_ret
    exact ⟨by rw [E.out]; rfl, Below.refl _ _⟩
  obtain ⟨m, rfl⟩ := Int.eq_ofNat_of_zero_le (Int.not_lt.1 h0)
  have E : Hid (hostF a m = fmtA a ++ [47] ++ dec m) := Lib.hid (by unfold hostF; rw [if_pos (by omega), Int.toNat_natCast])
  have s0 : (str (fmtA a)).size ≤ 16 := by rw [str_size]; exact fmtA_len a
  have s1 : (str (dec m)).size ≤ 3 := by rw [str_size]; exact dec_len 2 m (by omega)
  have d0 : decide ((m : Int) < 0) = false := by simp
  have d1 : decide ((32 : Int) < m) = false := by simp; omega
  have HE := Lib.hid he
  clear he
  go_enter Tryd.func82, Tryd.ntmps82
  go_wp2_with fail
  refine (format_any a _ ha HE.out).mono ?_
  rintro e w1 ⟨rfl, hb1⟩
  go_wp2_with fail
  refine (itoa_any m (by omega) _).mono ?_
  rintro e w2 ⟨rfl, rfl⟩
  rw [slash_app]
  have s2 : (str (fmtA a ++ [47])).size ≤ 17 := by rw [str_size] at s0 ⊢; simp; omega
  generalize hx : fmtA a ++ [47] = x1 at *
  have X1 := Lib.hid hx
  clear hx
  go_wp2_with fail
  go_ret
  exact ⟨by rw [E.out, ← str_app]; rfl, hb1⟩

/-- The written form of a prefix; empty if it is not valid. -/
def pfxF (p : Nat) (n : Int) : List UInt8 := if validP p n then hostF p n else []
set_option maxRecDepth 4000 in
set_option maxHeartbeats 1000000 in
theorem formatPrefix_any (p : Nat) (n : Int) (w : World) (hp : p < 4294967296) (he : Env w) : Calls Tryd.prog 54 #[PV p n] w fun e w' => e = .returned (.string (str (pfxF p n))) ∧ Below w.heap.size w w' := by
  have C1 := fun w => valid_any p n w hp
  unfold PV at C1 ⊢
  have H1 := Lib.hid C1
  have HE := Lib.hid he
  clear C1 he
  cases hv : validP p n with
  | false =>
    have E : Hid (pfxF p n = []) := Lib.hid (by unfold pfxF; rw [hv]; rfl)
    go_enter Tryd.func54, Tryd.ntmps54
    go_wp2_with fail
    refine (H1.out _).mono ?_
    rintro e w1 ⟨rfl, hb1⟩
    have hb : Below w.heap.size w w1 := ((Below.refl _ w).alloc (Nat.le_refl _) _).trans (hb1.mono (by simp))
    clear hb1
    go_wp2_with fail
    go_ret
    exact ⟨by rw [E.out]; rfl, hb⟩
  | true =>
    have E : Hid (pfxF p n = hostF p n) := Lib.hid (by unfold pfxF; rw [hv]; rfl)
    go_enter Tryd.func54, Tryd.ntmps54
    go_wp2_with fail
    refine (H1.out _).mono ?_
    rintro e w1 ⟨rfl, hb1⟩
    have hb : Below w.heap.size w w1 := ((Below.refl _ w).alloc (Nat.le_refl _) _).trans (hb1.mono (by simp))
    have c0 : w1.cell? ⟨w.heap.size, 0, none⟩ = some (.int .u32 (p : Int)) := by rw [hb1.cell (p := ⟨w.heap.size, 0, none⟩) (by simp), new_cell]; rfl
    have c1 : w1.cell? ⟨w.heap.size, 1, none⟩ = some (.int .i64 n) := by rw [hb1.cell (p := ⟨w.heap.size, 1, none⟩) (by simp), new_cell]; rfl
    clear hb1
    go_wp2_with fail
    refine (formatHost_any p n _ hp (HE.out.below hb)).mono ?_
    rintro e w2 ⟨rfl, hb2⟩
    clear c0 c1
    go_wp2_with fail
    go_ret
    exact ⟨by rw [E.out]; rfl, hb.trans (hb2.mono hb.size)⟩

/-- Where the first slash is. -/
def hostA (l : List UInt8) : Option (Nat × Int) :=
  if 0 ≤ Lib.index l [47] then
    match parseA (l.take (Lib.index l [47]).toNat), numIn (l.drop ((Lib.index l [47]).toNat + 1)) 0 32 with
    | some a, some n => some (a, n)
    | _, _ => none
  else none
def HostPost (o : Option (Nat × Int)) (w : World) (e : Ending) (w' : World) : Prop :=
  e = .returned (.tuple #[.int .u32 (((o.getD (0, 0)).1 : Nat) : Int), .int .i64 (o.getD (0, 0)).2, .bool o.isSome]) ∧ Below w.heap.size w w'
theorem hostPost_none {o : Option (Nat × Int)} {w w' : World} (h : o = none) (hb : Below w.heap.size w w') : HostPost o w (.returned (.tuple #[.int .u32 0, .int .i64 0, .bool false])) w' := by
  subst h; exact ⟨rfl, hb⟩
theorem hostPost_some {o : Option (Nat × Int)} {a : Nat} {n : Int} {w w' : World} (h : o = some (a, n)) (hb : Below w.heap.size w w') : HostPost o w (.returned (.tuple #[.int .u32 (a : Int), .int .i64 n, .bool true])) w' := by
  subst h; exact ⟨rfl, hb⟩
theorem host_miss {l : List UInt8} (h : Lib.index l [47] = -1) : hostA l = none := by unfold hostA; rw [h]; rfl
theorem host_hit {l : List UInt8} {i : Nat} (h : Lib.index l [47] = i) : hostA l = match parseA (l.take i), numIn (l.drop (i + 1)) 0 32 with | some a, some n => some (a, n) | _, _ => none := by
  unfold hostA; rw [h, if_pos (by omega), Int.toNat_natCast]
theorem host_no1 {l : List UInt8} {i : Nat} (h : Lib.index l [47] = i) (hp : parseA (l.take i) = none) : hostA l = none := by rw [host_hit h, hp]
theorem host_no2 {l : List UInt8} {i : Nat} (h : Lib.index l [47] = i) (hn : numIn (l.drop (i + 1)) 0 32 = none) : hostA l = none := by
  rw [host_hit h, hn]; cases parseA (l.take i) <;> rfl
theorem host_yes {l : List UInt8} {i a : Nat} {n : Int} (h : Lib.index l [47] = i) (hp : parseA (l.take i) = some a) (hn : numIn (l.drop (i + 1)) 0 32 = some n) : hostA l = some (a, n) := by rw [host_hit h, hp, hn]
theorem index_cases (l : List UInt8) : Lib.index l [47] = -1 ∨ ∃ i : Nat, Lib.index l [47] = i := by
  have := Lib.index_ge l [47]
  by_cases h : Lib.index l [47] = -1
  · exact .inl h
  · exact .inr ⟨(Lib.index l [47]).toNat, by omega⟩
theorem parse_none {s : ByteArray} (h : parseA (bytes s) = none) (w : World) (he : Env w) (hs : s.size ≤ 1000000000) : Calls Tryd.prog 106 #[.string s] w fun e w' => e = .returned (.tuple #[.int .u32 0, .bool false]) ∧ Below w.heap.size w w' := by
  refine (parse_any s w he hs).mono ?_
  rw [h]
  rintro e w' ⟨rfl, hb⟩
  exact ⟨rfl, hb⟩
theorem parse_some {s : ByteArray} {a : Nat} (h : parseA (bytes s) = some a) (w : World) (he : Env w) (hs : s.size ≤ 1000000000) : Calls Tryd.prog 106 #[.string s] w fun e w' => e = .returned (.tuple #[.int .u32 (a : Int), .bool true]) ∧ Below w.heap.size w w' := by
  refine (parse_any s w he hs).mono ?_
  rw [h]
  rintro e w' ⟨rfl, hb⟩
  exact ⟨rfl, hb⟩
theorem rparse_none {s : ByteArray} (h : parseA (bytes s) = none) (w : World) (hs : s.size ≤ 1000000000) : Calls Tryd.prog 97 #[.string s] w fun e w' => e = .returned (.tuple #[.int .u32 0, .bool false]) ∧ Below w.heap.size w w' := by
  refine (rparse_any s w hs).mono ?_
  rw [h]
  rintro e w' ⟨rfl, hb⟩
  exact ⟨rfl, hb⟩
theorem rparse_some {s : ByteArray} {a : Nat} (h : parseA (bytes s) = some a) (w : World) (hs : s.size ≤ 1000000000) : Calls Tryd.prog 97 #[.string s] w fun e w' => e = .returned (.tuple #[.int .u32 (a : Int), .bool true]) ∧ Below w.heap.size w w' := by
  refine (rparse_any s w hs).mono ?_
  rw [h]
  rintro e w' ⟨rfl, hb⟩
  exact ⟨rfl, hb⟩
/-- strings.Cut at a slash, found at i. -/
theorem cut_hit {s : ByteArray} {i : Nat} (h : Lib.index (bytes s) [47] = i) (w : World) (he : Env w) (hs : s.size ≤ 1000000000) : Calls Tryd.prog 105 #[.string s, .string ⟨#[47]⟩] w fun e w' =>
    e = .returned (.tuple #[.string (str ((bytes s).take i)), .string (str ((bytes s).drop (i + 1))), .bool true]) ∧ Below w.heap.size w w' := by
  obtain ⟨⟨m, hm⟩, _⟩ := he
  refine (Tryd.strings_Cut s ⟨#[47]⟩ m w (by omega) hm).mono ?_
  rintro e w' ⟨rfl, q, rfl⟩
  have e1 : Lib.cut s.data.toList (⟨#[47]⟩ : ByteArray).data.toList = ((bytes s).take i, (bytes s).drop (i + 1), true) := by
    show Lib.cut (bytes s) [47] = _
    unfold Lib.cut
    rw [h, if_pos (by omega), Int.toNat_natCast]; rfl
  rw [e1]
  exact ⟨rfl, drewN_below w q⟩
theorem cut_miss {s : ByteArray} (h : Lib.index (bytes s) [47] = -1) (w : World) (he : Env w) (hs : s.size ≤ 1000000000) : Calls Tryd.prog 105 #[.string s, .string ⟨#[47]⟩] w fun e w' =>
    e = .returned (.tuple #[.string s, .string (str []), .bool false]) ∧ Below w.heap.size w w' := by
  obtain ⟨⟨m, hm⟩, _⟩ := he
  refine (Tryd.strings_Cut s ⟨#[47]⟩ m w (by omega) hm).mono ?_
  rintro e w' ⟨rfl, q, rfl⟩
  have e1 : Lib.cut s.data.toList (⟨#[47]⟩ : ByteArray).data.toList = (bytes s, [], false) := by
    show Lib.cut (bytes s) [47] = _
    unfold Lib.cut
    rw [h, if_neg (by omega)]
  rw [e1]
  exact ⟨rfl, drewN_below w q⟩
theorem take_small {s : ByteArray} {i n : Nat} (hs : s.size ≤ n) : (str ((bytes s).take i)).size ≤ n := by rw [str_size, List.length_take, bytes_len]; omega
theorem drop_small {s : ByteArray} {i n : Nat} (hs : s.size ≤ n) : (str ((bytes s).drop i)).size ≤ n := by rw [str_size, List.length_drop, bytes_len]; omega

set_option maxRecDepth 4000 in
set_option maxHeartbeats 1000000 in
theorem parseHost_any (s : ByteArray) (w : World) (he : Env w) (hs : s.size ≤ 1000000000) : Calls Tryd.prog 96 #[.string s] w (HostPost (hostA (bytes s)) w) := by
  have HE := Lib.hid he
  clear he
  rcases index_cases (bytes s) with h | ⟨i, h⟩
  · have HI := Lib.hid h
    have HF := Lib.hid (host_miss h)
    clear h
    go_enter Tryd.func96, Tryd.ntmps96
    go_wp2_with fail
    refine (cut_miss HI.out _ HE.out hs).mono ?_
    rintro e w1 ⟨rfl, hb1⟩
    go_wp2_with fail
    go_ret3
    exact hostPost_none HF.out hb1
  have HI := Lib.hid h
  have s1 := take_small (i := i) hs
  have s2 := drop_small (i := i + 1) hs
  clear h
  cases hp : parseA ((bytes s).take i) with
  | none =>
    have HP := Lib.hid hp
    have HF := Lib.hid (host_no1 HI.out hp)
    clear hp
    go_enter Tryd.func96, Tryd.ntmps96
    go_wp2_with fail
    refine (cut_hit HI.out _ HE.out hs).mono ?_
    rintro e w1 ⟨rfl, hb1⟩
    have hz := hb1.size
    go_wp2_with fail
    refine (parse_none (by rw [bytes_str]; exact HP.out) _ (HE.out.below hb1) s1).mono ?_
    rintro e w2 ⟨rfl, hb2⟩
    go_wp2_with fail
    go_ret3
    exact hostPost_none HF.out (hb1.trans (hb2.mono hz))
  | some a =>
    have HP := Lib.hid hp
    clear hp
    cases hn : numIn ((bytes s).drop (i + 1)) 0 32 with
    | none =>
      have HN := Lib.hid hn
      have HF := Lib.hid (host_no2 HI.out hn)
      clear hn
      go_enter Tryd.func96, Tryd.ntmps96
      go_wp2_with fail
      refine (cut_hit HI.out _ HE.out hs).mono ?_
      rintro e w1 ⟨rfl, hb1⟩
      have hz := hb1.size
      go_wp2_with fail
      refine (parse_some (by rw [bytes_str]; exact HP.out) _ (HE.out.below hb1) s1).mono ?_
      rintro e w2 ⟨rfl, hb2⟩
      go_wp2_with fail
      refine (number_none (by rw [bytes_str]; exact HN.out) _).mono ?_
      rintro e w' ⟨rfl, rfl⟩
      go_wp2_with fail
      go_ret3
      exact hostPost_none HF.out (hb1.trans (hb2.mono hz))
    | some n =>
      have HN := Lib.hid hn
      have HF := Lib.hid (host_yes HI.out HP.out hn)
      clear hn
      go_enter Tryd.func96, Tryd.ntmps96
      go_wp2_with fail
      refine (cut_hit HI.out _ HE.out hs).mono ?_
      rintro e w1 ⟨rfl, hb1⟩
      have hz := hb1.size
      go_wp2_with fail
      refine (parse_some (by rw [bytes_str]; exact HP.out) _ (HE.out.below hb1) s1).mono ?_
      rintro e w2 ⟨rfl, hb2⟩
      go_wp2_with fail
      refine (number_some (by rw [bytes_str]; exact HN.out) _).mono ?_
      rintro e w' ⟨rfl, rfl⟩
      go_wp2_with fail
      go_ret3
      exact hostPost_some HF.out (hb1.trans (hb2.mono hz))
end Go.Proofs.YtnhemjdmleilcaaDoor
