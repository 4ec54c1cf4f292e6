/- The walk of the statement AlphaValid, over CheckRouter's own contract and the reference's CheckRouter on valid routers. Condition: Go's own tables lie in memory (EnvA). -/
import Derived.Test.YtoceoaiokkbjeaaGreatDoorWam
import Derived.Test.YtoceoaiokkbjeaaGreatDoorWas
import Derived.Test.YtoceoaiokkbjeaaGreatDoorWat
set_option maxRecDepth 8000
namespace Go.Proofs.YtoceoaiokkbjeaaGreatDoor
open Lib (hid)
open Go.RowKit
theorem linesK_ok (s : Int) : ∀ (ls : List (List (List UInt8))) (k : Nat) (a : Al), AlOk k a → AlOk (k + ls.length) (zDc s ls k a).1
 | [], _, _, h => h
 | fs :: r, k, a, h => by
  have e : k + (fs :: r).length = k + 1 + r.length := by rw [List.length_cons]; omega
  rw [e]
  unfold zDc
  split
  ·exact linesK_ok s r (k + 1) a (h.up (Nat.le_succ _))
  ·split
   ·exact linesK_ok s r (k + 1) _ (lineS_ok h fs)
   ·exact h.up (by omega)
theorem rt0_low (w : World) (B : Nat) : rt0.at w B := ⟨SlV.nil, SlV.nil, fun _ h => (by cases h), SlV.nil, fun _ h => (by cases h), SlV.nil, fun _ h => (by cases h), SlV.nil, SlV.nil, SlV.nil, SlV.nil, SlV.nil, SlV.nil, SlV.nil, SlV.nil, SlV.nil, SlV.nil⟩
theorem ParseP.valid {l : List UInt8} {w w' : World} {e : Ending} (h : ParseP zDv l w e w') : Below w.heap.size w w' ∧ ∃ (r : Rt) (k : Nat) (f : Int), e = .returned (.tuple #[.agg r.C, .int .i64 (k : Int), .int .i64 f]) ∧ r.at w' w'.heap.size ∧ (f ≠ 0 → r = rt0) ∧ (f = 0 → zDv r = 0 ∧ r.fit) := by
 obtain ⟨hb, h1, h2⟩ := h
 refine ⟨hb, ?_⟩
 by_cases hl : zBo l = 0
 ·have h3 := h2 hl
  unfold ReadR at h3
  have hok := linesK_ok (-1) (zIe l) 0 Al.zero (.zero 0)
  cases hk : zDc (-1) (zIe l) 0 Al.zero with
  | mk a o =>
  rw [hk] at h3 hok
  cases o with
  | some n => exact ⟨rt0, n, 2, h3, rt0_low _ _, fun _ => rfl, fun h => absurd h (by decide)⟩
  | none =>
   obtain ⟨r, hp, hat, e1, e2⟩ := h3
   by_cases h0 : zDv r = 0
   ·exact ⟨r, _, 0, e1 h0, hat [] w' (fun _ h => by cases h) (Fr.refl _ _), fun h => absurd rfl h, fun _ => ⟨h0, alRt_fit hok hp⟩⟩
   ·exact ⟨rt0, _, _, e2 h0, rt0_low _ _, fun _ => rfl, fun h => absurd h h0⟩
 ·exact ⟨rt0, 0, _, h1 hl, rt0_low _ _, fun _ => rfl, fun h => absurd h hl⟩
set_option maxHeartbeats 8000000 in
theorem alphaValid_walk (s : ByteArray) (w : World) (he : EnvA w.heap.size w) : Calls Tryz.prog 4 #[.string s] w fun e w' => e = .returned (.bool true) ∧ Below w.heap.size w w' := by
 have CR : ∀ (r : Rt) (w : World) (B : Nat), r.at w B → B ≤ w.heap.size → r.fit → Calls Tryz.prog 36 #[.agg r.C] w fun e w' => e = .returned (.int .i64 (zDv r)) ∧ Below w.heap.size w w' := checkRouter_any
 have HP := hid (parse_gen zDv CR s w he)
 have HSN := hid (fun (W : World) (hW : Below w.heap.size w W) => sane_gen zDv CR (fun r (h : r.plain = alRt saneA) => by rw [← routerE_plain, h]; kernel_rfl) W (by have h := he.keep hW; exact ⟨h.1, Nat.lt_of_lt_of_le h.2 hW.size⟩))
 clear he CR
 by_cases hs : 3000 < s.size
 ·have hsz : (3000 : Int) < (s.size : Int) := by omega
  go_enter Tryz.func4, Tryz.ntmps4
  go_wp2_with fail
  go_ret
  exact ⟨rfl, Below.refl _ _⟩
 have hsz : ¬ ((3000 : Int) < (s.size : Int)) := by omega
 clear hs
 go_enter Tryz.func4, Tryz.ntmps4
 go_wp2_with fail
 refine HP.out.mono ?_
 intro e w1 h1
 obtain ⟨hb1, r, k, f, rfl, hat, hz, hok⟩ := h1.valid
 have HB1 := hid hb1
 have HA1 := hid hat
 have HZ := hid hz
 have HK := hid hok
 clear h1 hb1 hat hz hok HP hsz
 go_upto_region 4 with (refine zAe rfl 41 _ _ rfl rfl (ds := r.C) rfl (HasC.new _ _ _) rfl Tryz.sizeRt HA1.out.one ?_; intro w2 hz1 hz2)
 have HB2 := hid (zAn hz2)
 have X2 := hid hz1
 have HBW : Hid (Below w.heap.size w w2) := hid (HB1.out.trans (HB2.out.mono HB1.out.size))
 have HA2 := hid ((HA1.out.below HB2.out).lift HB2.out.size)
 clear hz1 hz2 HA1
 by_cases hf : f = 0
 ·obtain ⟨h0, hfit⟩ := HK.out hf
  subst hf
  have RC := hid (rcheck_ok r w2 w2.heap.size (Nat.le_refl _) HA2.out hfit h0)
  clear h0 hfit HK HZ
  go_wp2_with (refine zAa rfl 41 _ rfl rfl X2.out.range Tryz.rowRt Tryz.sizeRt ?_)
  refine RC.out.mono ?_
  rintro e w3 ⟨rfl, hb⟩
  have HB3 : Hid (Below w.heap.size w w3) := hid (HBW.out.trans (hb.mono HBW.out.size))
  clear hb RC
  go_wp2_with fail
  refine (HSN.out w3 HB3.out).mono ?_
  rintro e w4 ⟨rfl, hb⟩
  have HB4 : Hid (Below w.heap.size w w4) := hid (HB3.out.trans (hb.mono HB3.out.size))
  clear hb
  go_wp2_with fail
  go_ret
  exact ⟨rfl, HB4.out⟩
 ·obtain rfl := HZ.out hf
  have d0 : (f != 0) = true := by simpa using hf
  have d1 : (f == 0) = false := by simpa using hf
  have hk0 : (0 : Int) ≤ (k : Int) := by omega
  have SM := hid (zSame w2)
  clear HK HZ hf
  go_wp2_with (refine zAa rfl 41 _ rfl rfl X2.out.range Tryz.rowRt Tryz.sizeRt ?_)
  refine SM.out.mono ?_
  rintro e w3 ⟨rfl, hb⟩
  have HB3 : Hid (Below w.heap.size w w3) := hid (HBW.out.trans (hb.mono HBW.out.size))
  clear hb SM
  go_wp2_with fail
  refine (HSN.out w3 HB3.out).mono ?_
  rintro e w4 ⟨rfl, hb⟩
  have HB4 : Hid (Below w.heap.size w w4) := hid (HB3.out.trans (hb.mono HB3.out.size))
  clear hb
  go_wp2_with fail
  go_ret
  exact ⟨rfl, HB4.out⟩
end Go.Proofs.YtoceoaiokkbjeaaGreatDoor
