/- Lines added to a text in dialect Alpha, plain. No condition. -/
import Derived.Test.YtoceoaiokkbjeaaGreatDoorWac
import Derived.Test.YtoceoaiokkbjeaaGreatDoorWad
set_option maxRecDepth 8000
set_option maxHeartbeats 8000000
namespace Go.Proofs.YtoceoaiokkbjeaaGreatDoor
open Lib (hid)
open Go.RowKit
theorem zDh (word : List UInt8) : ifWords.contains word = ((word == [97, 100, 100, 114, 101, 115, 115]) || (word == [118, 108, 97, 110]) || (word == [115, 104, 117, 116, 100, 111, 119, 110]) || (word == [108, 115]) || (word == [100, 118]) || (word == [105, 110]) || (word == [111, 117, 116]) || (word == [115, 105, 100, 101])) := by
 simp only [ifWords, List.contains_cons, List.contains_nil, Bool.or_false, Bool.or_assoc]
theorem zGq (word : List UInt8) : clWords.contains word = ((word == [109, 97, 116, 99, 104]) || (word == [115, 101, 116]) || (word == [112, 114, 101, 112, 101, 110, 100])) := by
 simp only [clWords, List.contains_cons, List.contains_nil, Bool.or_false, Bool.or_assoc]
theorem zAu (word : List UInt8) : prWords.contains word = ((word == [100, 105, 115, 116, 97, 110, 99, 101]) || (word == [114, 97, 110, 103, 101]) || (word == [114, 101, 100, 105, 115, 116, 114, 105, 98, 117, 116, 101]) || (word == [102, 105, 108, 116, 101, 114]) || (word == [110, 101, 105, 103, 104, 98, 111, 114]) || (word == [110, 101, 116, 119, 111, 114, 107]) || (word == [97, 103, 103, 114, 101, 103, 97, 116, 101]) || (word == [111, 114, 105, 103, 105, 110, 97, 116, 101])) := by
 simp only [prWords, List.contains_cons, List.contains_nil, Bool.or_false, Bool.or_assoc]
theorem belongs_any (block : Int) (word : List UInt8) (w : World) : Calls Tryz.prog 58 #[.int .i64 block, .string (str word)] w fun e w' => e = .returned (.bool (belB block word)) ∧ w' = w := by
 by_cases b1 : block = 1
 ·subst b1
  have q0 : ((str word).toList == [97, 100, 100, 114, 101, 115, 115]) = (word == [97, 100, 100, 114, 101, 115, 115]) := by rw [zAb]
  cases e0 : (word == [97, 100, 100, 114, 101, 115, 115]) with
  | true =>
   rw [e0] at q0
   have E : Hid (belB 1 word = true) := hid (by show (if (1 : Int) = 1 then ifWords.contains word else _) = _; rw [if_pos rfl]; rw [zDh]; simp only [e0, Bool.true_or])
   go_enter Tryz.func58, Tryz.ntmps58
   go_wp2_with fail
   go_ret
   exact ⟨zAd E.out.symm, rfl⟩
  | false =>
   rw [e0] at q0
   have q1 : ((str word).toList == [118, 108, 97, 110]) = (word == [118, 108, 97, 110]) := by rw [zAb]
   cases e1 : (word == [118, 108, 97, 110]) with
   | true =>
    rw [e1] at q1
    have E : Hid (belB 1 word = true) := hid (by show (if (1 : Int) = 1 then ifWords.contains word else _) = _; rw [if_pos rfl]; rw [zDh]; simp only [e0, e1, Bool.true_or, Bool.or_true])
    go_enter Tryz.func58, Tryz.ntmps58
    go_wp2_with fail
    go_ret
    exact ⟨zAd E.out.symm, rfl⟩
   | false =>
    rw [e1] at q1
    have q2 : ((str word).toList == [115, 104, 117, 116, 100, 111, 119, 110]) = (word == [115, 104, 117, 116, 100, 111, 119, 110]) := by rw [zAb]
    cases e2 : (word == [115, 104, 117, 116, 100, 111, 119, 110]) with
    | true =>
     rw [e2] at q2
     have E : Hid (belB 1 word = true) := hid (by show (if (1 : Int) = 1 then ifWords.contains word else _) = _; rw [if_pos rfl]; rw [zDh]; simp only [e0, e1, e2, Bool.true_or, Bool.or_true])
     go_enter Tryz.func58, Tryz.ntmps58
     go_wp2_with fail
     go_ret
     exact ⟨zAd E.out.symm, rfl⟩
    | false =>
     rw [e2] at q2
     have q3 : ((str word).toList == [108, 115]) = (word == [108, 115]) := by rw [zAb]
     cases e3 : (word == [108, 115]) with
     | true =>
      rw [e3] at q3
      have E : Hid (belB 1 word = true) := hid (by show (if (1 : Int) = 1 then ifWords.contains word else _) = _; rw [if_pos rfl]; rw [zDh]; simp only [e0, e1, e2, e3, Bool.true_or, Bool.or_true])
      go_enter Tryz.func58, Tryz.ntmps58
      go_wp2_with fail
      go_ret
      exact ⟨zAd E.out.symm, rfl⟩
     | false =>
      rw [e3] at q3
      have q4 : ((str word).toList == [100, 118]) = (word == [100, 118]) := by rw [zAb]
      cases e4 : (word == [100, 118]) with
      | true =>
       rw [e4] at q4
       have E : Hid (belB 1 word = true) := hid (by show (if (1 : Int) = 1 then ifWords.contains word else _) = _; rw [if_pos rfl]; rw [zDh]; simp only [e0, e1, e2, e3, e4, Bool.true_or, Bool.or_true])
       go_enter Tryz.func58, Tryz.ntmps58
       go_wp2_with fail
       go_ret
       exact ⟨zAd E.out.symm, rfl⟩
      | false =>
       rw [e4] at q4
       have q5 : ((str word).toList == [105, 110]) = (word == [105, 110]) := by rw [zAb]
       cases e5 : (word == [105, 110]) with
       | true =>
        rw [e5] at q5
        have E : Hid (belB 1 word = true) := hid (by show (if (1 : Int) = 1 then ifWords.contains word else _) = _; rw [if_pos rfl]; rw [zDh]; simp only [e0, e1, e2, e3, e4, e5, Bool.true_or, Bool.or_true])
        go_enter Tryz.func58, Tryz.ntmps58
        go_wp2_with fail
        go_ret
        exact ⟨zAd E.out.symm, rfl⟩
       | false =>
        rw [e5] at q5
        have q6 : ((str word).toList == [111, 117, 116]) = (word == [111, 117, 116]) := by rw [zAb]
        cases e6 : (word == [111, 117, 116]) with
        | true =>
         rw [e6] at q6
         have E : Hid (belB 1 word = true) := hid (by show (if (1 : Int) = 1 then ifWords.contains word else _) = _; rw [if_pos rfl]; rw [zDh]; simp only [e0, e1, e2, e3, e4, e5, e6, Bool.true_or, Bool.or_true])
         go_enter Tryz.func58, Tryz.ntmps58
         go_wp2_with fail
         go_ret
         exact ⟨zAd E.out.symm, rfl⟩
        | false =>
         rw [e6] at q6
         have q7 : ((str word).toList == [115, 105, 100, 101]) = (word == [115, 105, 100, 101]) := by rw [zAb]
         cases e7 : (word == [115, 105, 100, 101]) with
         | true =>
          rw [e7] at q7
          have E : Hid (belB 1 word = true) := hid (by show (if (1 : Int) = 1 then ifWords.contains word else _) = _; rw [if_pos rfl]; rw [zDh]; simp only [e0, e1, e2, e3, e4, e5, e6, e7, Bool.or_true])
          go_enter Tryz.func58, Tryz.ntmps58
          go_wp2_with fail
          go_ret
          exact ⟨zAd E.out.symm, rfl⟩
         | false =>
          rw [e7] at q7
          have E : Hid (belB 1 word = false) := hid (by show (if (1 : Int) = 1 then ifWords.contains word else _) = _; rw [if_pos rfl]; rw [zDh]; simp only [e0, e1, e2, e3, e4, e5, e6, e7, Bool.or_false])
          go_enter Tryz.func58, Tryz.ntmps58
          go_wp2_with fail
          go_ret
          exact ⟨zAd E.out.symm, rfl⟩
 by_cases b2 : block = 2
 ·subst b2
  have q0 : ((str word).toList == [109, 97, 116, 99, 104]) = (word == [109, 97, 116, 99, 104]) := by rw [zAb]
  cases e0 : (word == [109, 97, 116, 99, 104]) with
  | true =>
   rw [e0] at q0
   have E : Hid (belB 2 word = true) := hid (by show clWords.contains word = _; rw [zGq]; simp only [e0, Bool.true_or])
   go_enter Tryz.func58, Tryz.ntmps58
   go_wp2_with fail
   go_ret
   exact ⟨zAd E.out.symm, rfl⟩
  | false =>
   rw [e0] at q0
   have q1 : ((str word).toList == [115, 101, 116]) = (word == [115, 101, 116]) := by rw [zAb]
   cases e1 : (word == [115, 101, 116]) with
   | true =>
    rw [e1] at q1
    have E : Hid (belB 2 word = true) := hid (by show clWords.contains word = _; rw [zGq]; simp only [e0, e1, Bool.true_or, Bool.or_true])
    go_enter Tryz.func58, Tryz.ntmps58
    go_wp2_with fail
    go_ret
    exact ⟨zAd E.out.symm, rfl⟩
   | false =>
    rw [e1] at q1
    have q2 : ((str word).toList == [112, 114, 101, 112, 101, 110, 100]) = (word == [112, 114, 101, 112, 101, 110, 100]) := by rw [zAb]
    cases e2 : (word == [112, 114, 101, 112, 101, 110, 100]) with
    | true =>
     rw [e2] at q2
     have E : Hid (belB 2 word = true) := hid (by show clWords.contains word = _; rw [zGq]; simp only [e0, e1, e2, Bool.or_true])
     go_enter Tryz.func58, Tryz.ntmps58
     go_wp2_with fail
     go_ret
     exact ⟨zAd E.out.symm, rfl⟩
    | false =>
     rw [e2] at q2
     have E : Hid (belB 2 word = false) := hid (by show clWords.contains word = _; rw [zGq]; simp only [e0, e1, e2, Bool.or_false])
     go_enter Tryz.func58, Tryz.ntmps58
     go_wp2_with fail
     go_ret
     exact ⟨zAd E.out.symm, rfl⟩
 by_cases b3 : block = 3
 ·subst b3
  have q0 : ((str word).toList == [100, 105, 115, 116, 97, 110, 99, 101]) = (word == [100, 105, 115, 116, 97, 110, 99, 101]) := by rw [zAb]
  cases e0 : (word == [100, 105, 115, 116, 97, 110, 99, 101]) with
  | true =>
   rw [e0] at q0
   have E : Hid (belB 3 word = true) := hid (by show prWords.contains word = _; rw [zAu]; simp only [e0, Bool.true_or])
   go_enter Tryz.func58, Tryz.ntmps58
   go_wp2_with fail
   go_ret
   exact ⟨zAd E.out.symm, rfl⟩
  | false =>
   rw [e0] at q0
   have q1 : ((str word).toList == [114, 97, 110, 103, 101]) = (word == [114, 97, 110, 103, 101]) := by rw [zAb]
   cases e1 : (word == [114, 97, 110, 103, 101]) with
   | true =>
    rw [e1] at q1
    have E : Hid (belB 3 word = true) := hid (by show prWords.contains word = _; rw [zAu]; simp only [e0, e1, Bool.true_or, Bool.or_true])
    go_enter Tryz.func58, Tryz.ntmps58
    go_wp2_with fail
    go_ret
    exact ⟨zAd E.out.symm, rfl⟩
   | false =>
    rw [e1] at q1
    have q2 : ((str word).toList == [114, 101, 100, 105, 115, 116, 114, 105, 98, 117, 116, 101]) = (word == [114, 101, 100, 105, 115, 116, 114, 105, 98, 117, 116, 101]) := by rw [zAb]
    cases e2 : (word == [114, 101, 100, 105, 115, 116, 114, 105, 98, 117, 116, 101]) with
    | true =>
     rw [e2] at q2
     have E : Hid (belB 3 word = true) := hid (by show prWords.contains word = _; rw [zAu]; simp only [e0, e1, e2, Bool.true_or, Bool.or_true])
     go_enter Tryz.func58, Tryz.ntmps58
     go_wp2_with fail
     go_ret
     exact ⟨zAd E.out.symm, rfl⟩
    | false =>
     rw [e2] at q2
     have q3 : ((str word).toList == [102, 105, 108, 116, 101, 114]) = (word == [102, 105, 108, 116, 101, 114]) := by rw [zAb]
     cases e3 : (word == [102, 105, 108, 116, 101, 114]) with
     | true =>
      rw [e3] at q3
      have E : Hid (belB 3 word = true) := hid (by show prWords.contains word = _; rw [zAu]; simp only [e0, e1, e2, e3, Bool.true_or, Bool.or_true])
      go_enter Tryz.func58, Tryz.ntmps58
      go_wp2_with fail
      go_ret
      exact ⟨zAd E.out.symm, rfl⟩
     | false =>
      rw [e3] at q3
      have q4 : ((str word).toList == [110, 101, 105, 103, 104, 98, 111, 114]) = (word == [110, 101, 105, 103, 104, 98, 111, 114]) := by rw [zAb]
      cases e4 : (word == [110, 101, 105, 103, 104, 98, 111, 114]) with
      | true =>
       rw [e4] at q4
       have E : Hid (belB 3 word = true) := hid (by show prWords.contains word = _; rw [zAu]; simp only [e0, e1, e2, e3, e4, Bool.true_or, Bool.or_true])
       go_enter Tryz.func58, Tryz.ntmps58
       go_wp2_with fail
       go_ret
       exact ⟨zAd E.out.symm, rfl⟩
      | false =>
       rw [e4] at q4
       have q5 : ((str word).toList == [110, 101, 116, 119, 111, 114, 107]) = (word == [110, 101, 116, 119, 111, 114, 107]) := by rw [zAb]
       cases e5 : (word == [110, 101, 116, 119, 111, 114, 107]) with
       | true =>
        rw [e5] at q5
        have E : Hid (belB 3 word = true) := hid (by show prWords.contains word = _; rw [zAu]; simp only [e0, e1, e2, e3, e4, e5, Bool.true_or, Bool.or_true])
        go_enter Tryz.func58, Tryz.ntmps58
        go_wp2_with fail
        go_ret
        exact ⟨zAd E.out.symm, rfl⟩
       | false =>
        rw [e5] at q5
        have q6 : ((str word).toList == [97, 103, 103, 114, 101, 103, 97, 116, 101]) = (word == [97, 103, 103, 114, 101, 103, 97, 116, 101]) := by rw [zAb]
        cases e6 : (word == [97, 103, 103, 114, 101, 103, 97, 116, 101]) with
        | true =>
         rw [e6] at q6
         have E : Hid (belB 3 word = true) := hid (by show prWords.contains word = _; rw [zAu]; simp only [e0, e1, e2, e3, e4, e5, e6, Bool.true_or, Bool.or_true])
         go_enter Tryz.func58, Tryz.ntmps58
         go_wp2_with fail
         go_ret
         exact ⟨zAd E.out.symm, rfl⟩
        | false =>
         rw [e6] at q6
         have q7 : ((str word).toList == [111, 114, 105, 103, 105, 110, 97, 116, 101]) = (word == [111, 114, 105, 103, 105, 110, 97, 116, 101]) := by rw [zAb]
         cases e7 : (word == [111, 114, 105, 103, 105, 110, 97, 116, 101]) with
         | true =>
          rw [e7] at q7
          have E : Hid (belB 3 word = true) := hid (by show prWords.contains word = _; rw [zAu]; simp only [e0, e1, e2, e3, e4, e5, e6, e7, Bool.or_true])
          go_enter Tryz.func58, Tryz.ntmps58
          go_wp2_with fail
          go_ret
          exact ⟨zAd E.out.symm, rfl⟩
         | false =>
          rw [e7] at q7
          have E : Hid (belB 3 word = false) := hid (by show prWords.contains word = _; rw [zAu]; simp only [e0, e1, e2, e3, e4, e5, e6, e7, Bool.or_false])
          go_enter Tryz.func58, Tryz.ntmps58
          go_wp2_with fail
          go_ret
          exact ⟨zAd E.out.symm, rfl⟩
 by_cases b4 : block = 4
 ·subst b4
  have q0 : ((str word).toList == [100, 105, 115, 116, 97, 110, 99, 101]) = (word == [100, 105, 115, 116, 97, 110, 99, 101]) := by rw [zAb]
  cases e0 : (word == [100, 105, 115, 116, 97, 110, 99, 101]) with
  | true =>
   rw [e0] at q0
   have E : Hid (belB 4 word = true) := hid (by show prWords.contains word = _; rw [zAu]; simp only [e0, Bool.true_or])
   go_enter Tryz.func58, Tryz.ntmps58
   go_wp2_with fail
   go_ret
   exact ⟨zAd E.out.symm, rfl⟩
  | false =>
   rw [e0] at q0
   have q1 : ((str word).toList == [114, 97, 110, 103, 101]) = (word == [114, 97, 110, 103, 101]) := by rw [zAb]
   cases e1 : (word == [114, 97, 110, 103, 101]) with
   | true =>
    rw [e1] at q1
    have E : Hid (belB 4 word = true) := hid (by show prWords.contains word = _; rw [zAu]; simp only [e0, e1, Bool.true_or, Bool.or_true])
    go_enter Tryz.func58, Tryz.ntmps58
    go_wp2_with fail
    go_ret
    exact ⟨zAd E.out.symm, rfl⟩
   | false =>
    rw [e1] at q1
    have q2 : ((str word).toList == [114, 101, 100, 105, 115, 116, 114, 105, 98, 117, 116, 101]) = (word == [114, 101, 100, 105, 115, 116, 114, 105, 98, 117, 116, 101]) := by rw [zAb]
    cases e2 : (word == [114, 101, 100, 105, 115, 116, 114, 105, 98, 117, 116, 101]) with
    | true =>
     rw [e2] at q2
     have E : Hid (belB 4 word = true) := hid (by show prWords.contains word = _; rw [zAu]; simp only [e0, e1, e2, Bool.true_or, Bool.or_true])
     go_enter Tryz.func58, Tryz.ntmps58
     go_wp2_with fail
     go_ret
     exact ⟨zAd E.out.symm, rfl⟩
    | false =>
     rw [e2] at q2
     have q3 : ((str word).toList == [102, 105, 108, 116, 101, 114]) = (word == [102, 105, 108, 116, 101, 114]) := by rw [zAb]
     cases e3 : (word == [102, 105, 108, 116, 101, 114]) with
     | true =>
      rw [e3] at q3
      have E : Hid (belB 4 word = true) := hid (by show prWords.contains word = _; rw [zAu]; simp only [e0, e1, e2, e3, Bool.true_or, Bool.or_true])
      go_enter Tryz.func58, Tryz.ntmps58
      go_wp2_with fail
      go_ret
      exact ⟨zAd E.out.symm, rfl⟩
     | false =>
      rw [e3] at q3
      have q4 : ((str word).toList == [110, 101, 105, 103, 104, 98, 111, 114]) = (word == [110, 101, 105, 103, 104, 98, 111, 114]) := by rw [zAb]
      cases e4 : (word == [110, 101, 105, 103, 104, 98, 111, 114]) with
      | true =>
       rw [e4] at q4
       have E : Hid (belB 4 word = true) := hid (by show prWords.contains word = _; rw [zAu]; simp only [e0, e1, e2, e3, e4, Bool.true_or, Bool.or_true])
       go_enter Tryz.func58, Tryz.ntmps58
       go_wp2_with fail
       go_ret
       exact ⟨zAd E.out.symm, rfl⟩
      | false =>
       rw [e4] at q4
       have q5 : ((str word).toList == [110, 101, 116, 119, 111, 114, 107]) = (word == [110, 101, 116, 119, 111, 114, 107]) := by rw [zAb]
       cases e5 : (word == [110, 101, 116, 119, 111, 114, 107]) with
       | true =>
        rw [e5] at q5
        have E : Hid (belB 4 word = true) := hid (by show prWords.contains word = _; rw [zAu]; simp only [e0, e1, e2, e3, e4, e5, Bool.true_or, Bool.or_true])
        go_enter Tryz.func58, Tryz.ntmps58
        go_wp2_with fail
        go_ret
        exact ⟨zAd E.out.symm, rfl⟩
       | false =>
        rw [e5] at q5
        have q6 : ((str word).toList == [97, 103, 103, 114, 101, 103, 97, 116, 101]) = (word == [97, 103, 103, 114, 101, 103, 97, 116, 101]) := by rw [zAb]
        cases e6 : (word == [97, 103, 103, 114, 101, 103, 97, 116, 101]) with
        | true =>
         rw [e6] at q6
         have E : Hid (belB 4 word = true) := hid (by show prWords.contains word = _; rw [zAu]; simp only [e0, e1, e2, e3, e4, e5, e6, Bool.true_or, Bool.or_true])
         go_enter Tryz.func58, Tryz.ntmps58
         go_wp2_with fail
         go_ret
         exact ⟨zAd E.out.symm, rfl⟩
        | false =>
         rw [e6] at q6
         have q7 : ((str word).toList == [111, 114, 105, 103, 105, 110, 97, 116, 101]) = (word == [111, 114, 105, 103, 105, 110, 97, 116, 101]) := by rw [zAb]
         cases e7 : (word == [111, 114, 105, 103, 105, 110, 97, 116, 101]) with
         | true =>
          rw [e7] at q7
          have E : Hid (belB 4 word = true) := hid (by show prWords.contains word = _; rw [zAu]; simp only [e0, e1, e2, e3, e4, e5, e6, e7, Bool.or_true])
          go_enter Tryz.func58, Tryz.ntmps58
          go_wp2_with fail
          go_ret
          exact ⟨zAd E.out.symm, rfl⟩
         | false =>
          rw [e7] at q7
          have E : Hid (belB 4 word = false) := hid (by show prWords.contains word = _; rw [zAu]; simp only [e0, e1, e2, e3, e4, e5, e6, e7, Bool.or_false])
          go_enter Tryz.func58, Tryz.ntmps58
          go_wp2_with fail
          go_ret
          exact ⟨zAd E.out.symm, rfl⟩
 by_cases b5 : block = 5
 ·subst b5
  have q0 : ((str word).toList == [100, 105, 115, 116, 97, 110, 99, 101]) = (word == [100, 105, 115, 116, 97, 110, 99, 101]) := by rw [zAb]
  cases e0 : (word == [100, 105, 115, 116, 97, 110, 99, 101]) with
  | true =>
   rw [e0] at q0
   have E : Hid (belB 5 word = true) := hid (by show prWords.contains word = _; rw [zAu]; simp only [e0, Bool.true_or])
   go_enter Tryz.func58, Tryz.ntmps58
   go_wp2_with fail
   go_ret
   exact ⟨zAd E.out.symm, rfl⟩
  | false =>
   rw [e0] at q0
   have q1 : ((str word).toList == [114, 97, 110, 103, 101]) = (word == [114, 97, 110, 103, 101]) := by rw [zAb]
   cases e1 : (word == [114, 97, 110, 103, 101]) with
   | true =>
    rw [e1] at q1
    have E : Hid (belB 5 word = true) := hid (by show prWords.contains word = _; rw [zAu]; simp only [e0, e1, Bool.true_or, Bool.or_true])
    go_enter Tryz.func58, Tryz.ntmps58
    go_wp2_with fail
    go_ret
    exact ⟨zAd E.out.symm, rfl⟩
   | false =>
    rw [e1] at q1
    have q2 : ((str word).toList == [114, 101, 100, 105, 115, 116, 114, 105, 98, 117, 116, 101]) = (word == [114, 101, 100, 105, 115, 116, 114, 105, 98, 117, 116, 101]) := by rw [zAb]
    cases e2 : (word == [114, 101, 100, 105, 115, 116, 114, 105, 98, 117, 116, 101]) with
    | true =>
     rw [e2] at q2
     have E : Hid (belB 5 word = true) := hid (by show prWords.contains word = _; rw [zAu]; simp only [e0, e1, e2, Bool.true_or, Bool.or_true])
     go_enter Tryz.func58, Tryz.ntmps58
     go_wp2_with fail
     go_ret
     exact ⟨zAd E.out.symm, rfl⟩
    | false =>
     rw [e2] at q2
     have q3 : ((str word).toList == [102, 105, 108, 116, 101, 114]) = (word == [102, 105, 108, 116, 101, 114]) := by rw [zAb]
     cases e3 : (word == [102, 105, 108, 116, 101, 114]) with
     | true =>
      rw [e3] at q3
      have E : Hid (belB 5 word = true) := hid (by show prWords.contains word = _; rw [zAu]; simp only [e0, e1, e2, e3, Bool.true_or, Bool.or_true])
      go_enter Tryz.func58, Tryz.ntmps58
      go_wp2_with fail
      go_ret
      exact ⟨zAd E.out.symm, rfl⟩
     | false =>
      rw [e3] at q3
      have q4 : ((str word).toList == [110, 101, 105, 103, 104, 98, 111, 114]) = (word == [110, 101, 105, 103, 104, 98, 111, 114]) := by rw [zAb]
      cases e4 : (word == [110, 101, 105, 103, 104, 98, 111, 114]) with
      | true =>
       rw [e4] at q4
       have E : Hid (belB 5 word = true) := hid (by show prWords.contains word = _; rw [zAu]; simp only [e0, e1, e2, e3, e4, Bool.true_or, Bool.or_true])
       go_enter Tryz.func58, Tryz.ntmps58
       go_wp2_with fail
       go_ret
       exact ⟨zAd E.out.symm, rfl⟩
      | false =>
       rw [e4] at q4
       have q5 : ((str word).toList == [110, 101, 116, 119, 111, 114, 107]) = (word == [110, 101, 116, 119, 111, 114, 107]) := by rw [zAb]
       cases e5 : (word == [110, 101, 116, 119, 111, 114, 107]) with
       | true =>
        rw [e5] at q5
        have E : Hid (belB 5 word = true) := hid (by show prWords.contains word = _; rw [zAu]; simp only [e0, e1, e2, e3, e4, e5, Bool.true_or, Bool.or_true])
        go_enter Tryz.func58, Tryz.ntmps58
        go_wp2_with fail
        go_ret
        exact ⟨zAd E.out.symm, rfl⟩
       | false =>
        rw [e5] at q5
        have q6 : ((str word).toList == [97, 103, 103, 114, 101, 103, 97, 116, 101]) = (word == [97, 103, 103, 114, 101, 103, 97, 116, 101]) := by rw [zAb]
        cases e6 : (word == [97, 103, 103, 114, 101, 103, 97, 116, 101]) with
        | true =>
         rw [e6] at q6
         have E : Hid (belB 5 word = true) := hid (by show prWords.contains word = _; rw [zAu]; simp only [e0, e1, e2, e3, e4, e5, e6, Bool.true_or, Bool.or_true])
         go_enter Tryz.func58, Tryz.ntmps58
         go_wp2_with fail
         go_ret
         exact ⟨zAd E.out.symm, rfl⟩
        | false =>
         rw [e6] at q6
         have q7 : ((str word).toList == [111, 114, 105, 103, 105, 110, 97, 116, 101]) = (word == [111, 114, 105, 103, 105, 110, 97, 116, 101]) := by rw [zAb]
         cases e7 : (word == [111, 114, 105, 103, 105, 110, 97, 116, 101]) with
         | true =>
          rw [e7] at q7
          have E : Hid (belB 5 word = true) := hid (by show prWords.contains word = _; rw [zAu]; simp only [e0, e1, e2, e3, e4, e5, e6, e7, Bool.or_true])
          go_enter Tryz.func58, Tryz.ntmps58
          go_wp2_with fail
          go_ret
          exact ⟨zAd E.out.symm, rfl⟩
         | false =>
          rw [e7] at q7
          have E : Hid (belB 5 word = false) := hid (by show prWords.contains word = _; rw [zAu]; simp only [e0, e1, e2, e3, e4, e5, e6, e7, Bool.or_false])
          go_enter Tryz.func58, Tryz.ntmps58
          go_wp2_with fail
          go_ret
          exact ⟨zAd E.out.symm, rfl⟩
 have z1 : (block == 1) = false := by simpa using b1
 have z2 : (block == 2) = false := by simpa using b2
 have z3 : (block == 3) = false := by simpa using b3
 have z4 : (block == 4) = false := by simpa using b4
 have z5 : (block == 5) = false := by simpa using b5
 have E : Hid (belB block word = false) := hid (by unfold belB; rw [if_neg b1, if_neg b2, if_neg (fun h => h.elim b3 (fun h => h.elim b4 b5))])
 go_enter Tryz.func58, Tryz.ntmps58
 go_wp2_with fail
 go_ret
 exact ⟨zAd E.out.symm, rfl⟩
theorem inner_any (g b B : Nat) (w0 : World) (a : Al) (word : List UInt8) (no : Bool) (p : Ps) (w : World) (h : RA g b B w0 a p w) (hk : AlOk 1000000 a) (he : EnvA B w0) (hs : p.short) :
  Calls Tryz.prog 59 #[.pointer (some ⟨g, 0, none⟩), .string (str word), .bool no, .pointer (some ⟨b, 0, none⟩)] w (APost g b B w0 (innS word no a p).1 (innS word no a p).2) := by
 have c28 : w.cell? ⟨g, 28, none⟩ = .some (.int .i64 a.block) := by obtain ⟨v, h, -⟩ := h; exact h.cell 28
 by_cases b1 : a.block = 1
 ·obtain ⟨v, h, hl, hI, -⟩ := h
  obtain ⟨gg, cap, hv, hp⟩ := hI b1
  rw [b1] at c28
  have hlt := hk.iface b1
  have HO : OwnE w B 68 12 If.C v.ifs a.ifs := h.own' (by simp [AlR])
  obtain ⟨gg', cap', cur, e, hB, hpt, hput⟩ := HO.part (by decide) (fun _ => rfl) hlt
  rw [hv] at e
  injection e with e1 _ _
  injection e1 with e1
  injection e1 with e1 _ _
  subst e1
  have hget : a.ifs[a.iface] = ifGet a := by unfold ifGet; rw [List.getElem?_eq_getElem hlt]; rfl
  rw [hget] at hpt
  have hown : (rowE 68 12 If.C v.ifs a.ifs).v.ownBlock = some gg := by show v.ifs.ownBlock = _; rw [hv]; rfl
  have hgb : gg ≠ b := fun e => h.br (List.mem_filterMap.2 ⟨rowE 68 12 If.C v.ifs a.ifs, by simp [AlR], by rw [hown, e]⟩)
  have HC := hid (zHz gg (a.iface * 12) b B cur (ifGet a) word no p w (Cm.start hpt h.st hgb hB) (h.env he) hs)
  have c29 : w.cell? ⟨g, 29, none⟩ = .some (.pointer (some ⟨gg, a.iface * 12, none⟩)) := by rw [← hp]; exact h.cell 29
  have E : Hid (innS word no a p = ({ a with ifs := zAm a.ifs a.iface (ifCmd (ifGet a) word no p).1 }, (ifCmd (ifGet a) word no p).2)) := hid (by unfold innS; rw [if_pos b1])
  have H := hid h
  have HL := hid hl
  have HV := hid hv
  have HP := hid hp
  have HPut := hid hput
  have HLT := hid hlt
  have HOwn := hid hown
  have HB1 := hid b1
  clear h hl hI hv hp hput hlt hown b1 HO hpt hget hk he hs
  go_enter Tryz.func59, Tryz.ntmps59
  go_wp2_with fail
  refine HC.out.mono ?_
  rintro e w1 ⟨rfl, hc⟩
  have R := RS.swap (pre := []) (X := [rowE 68 12 If.C v.ifs a.ifs]) (X' := [rowE 68 12 If.C v.ifs (zAm a.ifs a.iface (ifCmd (ifGet a) word no p).1)]) (post := (AlR a v).drop 1) H.out (hc.fr.mono (fun k hk => by
    simp only [List.mem_cons, List.not_mem_nil, or_false] at hk
    rcases hk with rfl | rfl
    ·exact List.mem_cons_of_mem _ (List.mem_filterMap.2 ⟨_, List.mem_singleton.2 rfl, HOwn.out⟩)
    ·exact List.mem_cons_self)) hc.st ⟨fun r hr => by obtain rfl := List.mem_singleton.1 hr; exact HPut.out _ _ hc.part.1, by rw [List.filterMap_cons]; split <;> simp⟩ (fun k hk => .inl hk)
  have HR := hid R
  clear R hc
  go_wp2_with fail
  go_end0
  rw [E.out]
  exact ⟨rfl, v, HR.out, HL.out, fun _ => ⟨gg, cap, by show _ = Value.slice _ (zAm a.ifs a.iface _).length _; rw [zBf HLT.out]; exact HV.out, HP.out⟩, fun h => absurd ((show a.block = 2 from h).symm.trans HB1.out) (by decide)⟩
 by_cases b2 : a.block = 2
 ·obtain ⟨v, h, hl, -, hC⟩ := h
  obtain ⟨m, gg, cap, hm, hv, hp⟩ := hC b2
  obtain ⟨hl1, hl2, hl3⟩ := hl
  obtain ⟨y, hy, hlt⟩ := hk.clause b2
  rw [b2] at c28
  have hym : y = m.ls := by
   rw [hl2, List.getElem?_map, hm] at hy
   exact (Option.some.inj hy).symm
  subst hym
  have hk1 : a.clause.1 < v.mm.length := (List.getElem?_eq_some_iff.1 hm).1
  have hme : v.mm[a.clause.1] = m := (List.getElem?_eq_some_iff.1 hm).2
  have hlt2 : a.clause.2 < m.items.length := hlt
  have eR : AlR a v = (AlR a v).take 11 ++ rowsP v ++ zAq 137 3 101 7 Cl.C v.maps v.mm ++ rowsA v := by simp [AlR, rowsM]
  have R := h
  rw [eR, zFt _ _ hk1, hme] at R
  obtain ⟨A, hA⟩ : ∃ A, A = (v.mm.take a.clause.1).flatMap (Lm.rows 3 101 7 Cl.C) := ⟨_, rfl⟩
  obtain ⟨Bq, hBq⟩ : ∃ A, A = (v.mm.drop (a.clause.1 + 1)).flatMap (Lm.rows 3 101 7 Cl.C) := ⟨_, rfl⟩
  rw [← hA, ← hBq] at R
  have HO : OwnE w B 101 7 Cl.C m.iv m.items := R.iAt
  obtain ⟨gg', cap', cur, e, hB, hpt, hput⟩ := HO.part (by decide) (fun _ => rfl) hlt2
  rw [hv] at e
  injection e with e1 _ _
  injection e1 with e1
  injection e1 with e1 _ _
  subst e1
  have hget : m.items[a.clause.2] = clGet a := by
   unfold clGet
   rw [hl2, List.getElem?_map, hm]
   show _ = (m.items[a.clause.2]?).getD _
   rw [List.getElem?_eq_getElem hlt2]; rfl
  rw [hget] at hpt
  have hown : (rowE 101 7 Cl.C m.iv m.items).v.ownBlock = some gg := by show m.iv.ownBlock = _; rw [hv]; rfl
  have hgb : gg ≠ b := fun e => R.br (List.mem_filterMap.2 ⟨rowE 101 7 Cl.C m.iv m.items, by simp [lf], by rw [hown, e]⟩)
  have HC := hid (zJu gg (a.clause.2 * 7) b B cur (clGet a) word no p w (Cm.start hpt h.st hgb hB))
  have c30 : w.cell? ⟨g, 30, none⟩ = .some (.pointer (some ⟨gg, a.clause.2 * 7, none⟩)) := by rw [← hp]; exact h.cell 30
  have E : Hid (innS word no a p = (clSet a (clCmd (clGet a) word no p).1, (clCmd (clGet a) word no p).2)) := hid (by unfold innS; rw [if_neg b1, if_pos b2])
  have ES : ∀ c, clSet a c = { a with maps := zAm a.maps a.clause.1 { m.ls with items := zAm m.ls.items a.clause.2 c } } := fun c => by
   unfold clSet
   rw [show a.maps[a.clause.1]? = some m.ls from by rw [hl2, List.getElem?_map, hm]; rfl]
  rw [lf_i] at R
  have HES := hid ES
  have HR0 := hid R
  have HL1 := hid hl1
  have HL2 := hid hl2
  have HL3 := hid hl3
  have HV := hid hv
  have HP := hid hp
  have HPut := hid hput
  have HLT := hid hlt2
  have HK1 := hid hk1
  have HME := hid hme
  have HOwn := hid hown
  have HB1 := hid b1
  have HA := hid hA
  have HBq := hid hBq
  clear h hl1 hl2 hl3 hC hv hp hput hlt hlt2 hown b1 HO hpt hget hk he hs hA hBq hm hme R ES eR hy
  go_enter Tryz.func59, Tryz.ntmps59
  go_wp2_with fail
  refine HC.out.mono ?_
  rintro e w1 ⟨rfl, hc⟩
  have R := RS.swap (X := [rowE 101 7 Cl.C m.iv m.items]) (X' := [rowE 101 7 Cl.C m.iv (zAm m.items a.clause.2 (clCmd (clGet a) word no p).1)]) (post := Bq ++ rowsA v) (by have := HR0.out; rw [List.append_cons] at this; exact this) (hc.fr.mono (fun k hk => by
    simp only [List.mem_cons, List.not_mem_nil, or_false] at hk
    rcases hk with rfl | rfl
    ·exact List.mem_cons_of_mem _ (List.mem_filterMap.2 ⟨_, List.mem_singleton.2 rfl, HOwn.out⟩)
    ·exact List.mem_cons_self)) hc.st ⟨fun r hr => by obtain rfl := List.mem_singleton.1 hr; exact HPut.out _ _ hc.part.1, by rw [List.filterMap_cons]; split <;> simp⟩ (fun k hk => .inl hk)
  rw [← List.append_cons, ← lf_i, HA.out, HBq.out, ← zFv HK1.out (m := (⟨m.name, m.seqs, zAm m.items a.clause.2 (clCmd (clGet a) word no p).1, m.sv, m.iv, m.s1, m.i1⟩ : Lm Cl)) (by rw [HME.out]; rfl)] at R
  have R2 := (zDm (Ti := 3) (Te := 101) (n := 7) (cells := Cl.C) (Tl := 137) (ms := v.mm) ((AlR a v).take 11 ++ rowsP v) (rowsA v) a.clause.1 (⟨m.name, m.seqs, zAm m.items a.clause.2 (clCmd (clGet a) word no p).1, m.sv, m.iv, m.s1, m.i1⟩ : Lm Cl) v.maps) ▸ R
  have HR := hid R2
  clear R R2 hc HR0
  go_wp2_with fail
  go_end0
  rw [E.out, HES.out]
  refine ⟨rfl, { v with mm := zAm v.mm a.clause.1 ⟨m.name, m.seqs, zAm m.items a.clause.2 (clCmd (clGet a) word no p).1, m.sv, m.iv, m.s1, m.i1⟩ }, rows_maps (a := a) (v := v) HR.out, ⟨HL1.out, by rw [zDo, ← HL2.out]; rfl, HL3.out⟩, fun h => absurd (show a.block = 1 from h) HB1.out, fun _ => ⟨⟨m.name, m.seqs, zAm m.items a.clause.2 (clCmd (clGet a) word no p).1, m.sv, m.iv, m.s1, m.i1⟩, gg, cap, zDa HK1.out _, ?_, HP.out⟩⟩
  show m.iv = Value.slice _ (zAm m.items a.clause.2 _).length _
  rw [zBf HLT.out]
  exact HV.out
 have HA := hid h
 have HE := hid he
 have HS := hid hs
 have HK := hid (hk.up (show 1000000 ≤ 1000000000 by decide))
 have z1 : (a.block == 1) = false := by simpa using b1
 have z2 : (a.block == 2) = false := by simpa using b2
 by_cases b3 : a.block = 3
 ·have E : Hid (innS word no a p = lsCmd word no a p) := hid (by unfold innS; rw [if_neg b1, if_neg b2, if_pos b3])
  rw [b3] at c28
  clear h hk he hs b1 b2 z1 z2 
  go_enter Tryz.func59, Tryz.ntmps59
  go_wp2_with fail
  refine (zIb g b B w0 a word no p w HA.out HK.out HE.out HS.out).mono ?_
  rintro e w1 ⟨rfl, hc⟩
  have HC := hid hc
  clear hc
  go_wp2_with fail
  go_end0
  rw [E.out]
  exact ⟨rfl, HC.out⟩
 have z3 : (a.block == 3) = false := by simpa using b3
 by_cases b4 : a.block = 4
 ·have E : Hid (innS word no a p = dvCmd word no a p) := hid (by unfold innS; rw [if_neg b1, if_neg b2, if_neg b3, if_pos b4])
  rw [b4] at c28
  clear h hk he hs b1 b2 z1 z2 b3 z3
  go_enter Tryz.func59, Tryz.ntmps59
  go_wp2_with fail
  refine (zIp g b B w0 a word no p w HA.out HK.out HE.out HS.out).mono ?_
  rintro e w1 ⟨rfl, hc⟩
  have HC := hid hc
  clear hc
  go_wp2_with fail
  go_end0
  rw [E.out]
  exact ⟨rfl, HC.out⟩
 have z4 : (a.block == 4) = false := by simpa using b4
 by_cases b5 : a.block = 5
 ·have E : Hid (innS word no a p = pvCmd word no a p) := hid (by unfold innS; rw [if_neg b1, if_neg b2, if_neg b3, if_neg b4, if_pos b5])
  rw [b5] at c28
  clear h hk he hs b1 b2 z1 z2 b3 z3 b4 z4
  go_enter Tryz.func59, Tryz.ntmps59
  go_wp2_with fail
  refine (pathCommand_any g b B w0 a word no p w HA.out HK.out HE.out HS.out).mono ?_
  rintro e w1 ⟨rfl, hc⟩
  have HC := hid hc
  clear hc
  go_wp2_with fail
  go_end0
  rw [E.out]
  exact ⟨rfl, HC.out⟩
 have z5 : (a.block == 5) = false := by simpa using b5
 have E : Hid (innS word no a p = (a, p)) := hid (by unfold innS; rw [if_neg b1, if_neg b2, if_neg b3, if_neg b4, if_neg b5])
 clear h hk he hs
 go_enter Tryz.func59, Tryz.ntmps59
 go_wp2_with fail
 go_end0
 rw [E.out]
 exact ⟨rfl, HA.out⟩
def FsV (w : World) (B : Nat) (v : Value) (fs : List (List UInt8)) : Prop := ∃ A c, v = .slice A fs.length c ∧ fs.length ≤ c ∧ Slc w B 1 v fs.length (fs.map strV)
theorem FsV.below {w w' : World} {B : Nat} {v : Value} {fs : List (List UInt8)} (h : FsV w B v fs) (hb : Below B w w') : FsV w' B v fs := by
 obtain ⟨A, c, e, h1, h2⟩ := h
 exact ⟨A, c, e, h1, h2.below hb⟩
theorem FsV.pop {w : World} {B : Nat} {v : Value} {f : List UInt8} {r : List (List UInt8)} (h : FsV w B v (f :: r)) :
  ∃ g o c, v = .slice (some ⟨g, o, none⟩) (r.length + 1) c ∧ w.cell? ⟨g, o, none⟩ = some (.string (str f)) ∧ r.length + 1 ≤ c ∧ r.length + 1 ≤ 9223372036854775807 ∧
   ∀ A', (c ≠ 1 → A' = some ⟨g, o + 1, none⟩) → A' ≠ none → FsV w B (.slice A' r.length (c - 1)) r := by
 obtain ⟨A, c, rfl, hc, hs⟩ := h
 obtain ⟨A0, c0, e, hm, hl, hA, hx⟩ := hs
 cases e
 obtain ⟨g, o, rfl, hg, hcell⟩ := hx (by simp)
 refine ⟨g, o, c, rfl, by show w.cell? ⟨g, o, none⟩ = some (strV f); simpa using hcell 0 (strV f) rfl, by simpa using hc, by simp only [maxLen, List.length_cons] at hm; omega, fun A' hA' hn => ⟨A', c - 1, rfl, ?_, A', c - 1, rfl, ?_, by simp, fun h => absurd h hn, fun hr => ⟨g, o + 1, hA' ?_, hg, fun j u hu => ?_⟩⟩⟩
 ·simp only [List.length_cons] at hc; omega
 ·simp only [List.length_cons] at hm; omega
 ·simp only [List.length_cons] at hc; omega
 ·have := hcell (j + 1) u (by simpa using hu)
  rw [show o + 1 + j = o + (j + 1) from by omega]
  exact this
theorem FsV.st {T : TypeId} {w : World} {B : Nat} {v : Value} {fs : List (List UInt8)} (h : FsV w B v fs) (hB : B ≤ w.heap.size) : WSt T w.heap.size B ⟨fs, false⟩ (w.alloc (.cells #[v, .bool false] T)) := by
 obtain ⟨A, c, rfl, h1, h2⟩ := h
 exact ⟨hB, _, heap_alloc_new w _, h2.below (((Below.refl _ w).alloc (Nat.le_refl _) _).mono hB), A, c, rfl, h1⟩
def RZ (g B : Nat) (w0 : World) (a : Al) (w : World) : Prop :=
 ∃ v : Av, (HasC 88 g (AlC a v) w ∧ OwnAll w B (AlR a v) ∧ Below B w0 w ∧ g ∉ blks (AlR a v) ∧ B ≤ w0.heap.size ∧ B ≤ g) ∧ (a.lists = v.lm.map Lm.ls ∧ a.maps = v.mm.map Lm.ls ∧ a.acls = v.am.map Lm.ls) ∧
  (a.block = 1 → ∃ gg cap, v.ifs = .slice (some ⟨gg, 0, none⟩) a.ifs.length cap ∧ v.ifp = .pointer (some ⟨gg, a.iface * 12, none⟩)) ∧
  (a.block = 2 → ∃ m gg cap, v.mm[a.clause.1]? = some m ∧ m.iv = .slice (some ⟨gg, 0, none⟩) m.items.length cap ∧ v.clp = .pointer (some ⟨gg, a.clause.2 * 7, none⟩))
section
variable {g b B : Nat} {w0 w w' : World} {a : Al} {p : Ps}
theorem RA.rz (h : RA g b B w0 a p w) : RZ g B w0 a w := by
 obtain ⟨v, h, hr⟩ := h
 exact ⟨v, ⟨h.has, h.own, h.bel, h.gr, h.bB, h.gB⟩, hr⟩
theorem RZ.size (h : RZ g B w0 a w) : B ≤ w.heap.size := by
 obtain ⟨v, ⟨-, -, h3, -, h5, -⟩, -⟩ := h
 exact Nat.le_trans h5 h3.size
theorem RZ.below (h : RZ g B w0 a w) : Below B w0 w := by
 obtain ⟨v, ⟨-, -, h3, -⟩, -⟩ := h
 exact h3
theorem RZ.ra (h : RZ g B w0 a w) (hs : WSt 131 b B p w') (hb : Below w.heap.size w w') (hn : w.heap.size ≤ b) : RA g b B w0 a p w' := by
 have hB := h.size
 obtain ⟨v, ⟨h1, h2, h3, h4, h5, h6⟩, hr⟩ := h
 have hg := zBp h1
 exact ⟨v, ⟨h1.keep hb, h2.below hb, hs, h3.trans (hb.mono hB), h5, h6, by omega, h4, fun hm => by have := (OwnAll.lt h2 hm).1; omega⟩, hr⟩
theorem RA.close (h : RA g b B w0 a p w) : RA g b B w0 { a with block := 0 } p (w.setCell ⟨g, 28, none⟩ (.int .i64 0)) := by
 obtain ⟨v, h, hl, -, -⟩ := h
 exact ⟨v, h.put 28 (.int .i64 0) rfl, hl, fun h => absurd (show (0 : Int) = 1 from h) (by decide), fun h => absurd (show (0 : Int) = 2 from h) (by decide)⟩
theorem RA.frz (h : RA g b B w0 a p w) (j : Nat) : w.frozen? ⟨g, j, none⟩ = false := by obtain ⟨v, h, -⟩ := h; exact h.frz j
theorem RA.c28 (h : RA g b B w0 a p w) : w.cell? ⟨g, 28, none⟩ = some (.int .i64 a.block) := by obtain ⟨v, h, -⟩ := h; exact h.cell 28
end
def comS (no : Bool) (word : List UInt8) (r : List (List UInt8)) (a : Al) : Sa := if belB a.block word then innS word no a ⟨r, false⟩ else if no then remS word { a with block := 0 } ⟨r, false⟩ else globS word { a with block := 0 } ⟨r, false⟩
theorem lineS_no {f : List UInt8} {r : List (List UInt8)} (a : Al) (h : (f == [110, 111]) = false) : lineS (f :: r) a = ((comS false f r a).1, doneB (comS false f r a).2) := by
 have e : ((f :: r).head? == some [110, 111]) = false := h
 unfold lineS comS
 rw [e]
 rfl
theorem lineS_one {f : List UInt8} (a : Al) (h : (f == [110, 111]) = true) : lineS [f] a = (a, false) := by
 have e : ([f].head? == some [110, 111]) = true := h
 unfold lineS
 rw [e]
 rfl
theorem lineS_yes {f word : List UInt8} {r : List (List UInt8)} (a : Al) (h : (f == [110, 111]) = true) : lineS (f :: word :: r) a = ((comS true word r a).1, doneB (comS true word r a).2) := by
 have e : ((f :: word :: r).head? == some [110, 111]) = true := h
 unfold lineS comS
 rw [e]
 rfl
theorem line_any (g B : Nat) (w0 : World) (a : Al) (v : Value) (fs : List (List UInt8)) (w : World) (h : RZ g B w0 a w) (hk : AlOk 1000000 a) (he : EnvA B w0) (hf : FsV w B v fs) (hne : fs ≠ []) (hs : ∀ f ∈ fs, f.length ≤ 1000000000) :
  Calls Tryz.prog 34 #[.pointer (some ⟨g, 0, none⟩), v] w fun e w' => e = .returned (.bool (lineS fs a).2) ∧ RZ g B w0 (lineS fs a).1 w' := by
 cases fs with
 | nil => exact absurd rfl hne
 | cons f r =>
 obtain ⟨gf, of, cf, rfl, c0, hcf, hmf, hpop⟩ := hf.pop
 have q : ((str f).toList == [110, 111]) = (f == [110, 111]) := by rw [zAb]
 have HZ := hid h
 have HE := hid he
 have HK := hid hk
 have HPop := hid hpop
 have hB := h.size
 cases hno : (f == [110, 111]) with
 | false =>
  rw [hno] at q
  have E : Hid (lineS (f :: r) a = ((comS false f r a).1, doneB (comS false f r a).2)) := hid (lineS_no a hno)
  have HS : Hid ((⟨r, false⟩ : Ps).short) := hid (fun x hx => hs x (List.mem_cons_of_mem _ hx))
  have hB2 := hB
  clear h hk he hf hne hs hpop hno hB
  have hn0 : ¬ (((r.length + 1 : Nat) : Int) = 0) := by omega
  have hz0 : (((r.length : Int) + 1) == 0) = false := by simp; omega
  go_enter Tryz.func34, Tryz.ntmps34
  go_upto_region 7 with (fail)
  go_cut [1, 7] (fun f1 l0 wx => l0 = .pointer (some ⟨w.heap.size, 0, none⟩) ∧ RA g w.heap.size B w0 a ⟨r, false⟩ wx)
  case first =>
   go_wp2_with fail
   ·go_meet
    have q := HPop.out (some ⟨gf, of, none⟩) (fun h' => absurd (by assumption) h') (by simp)
    rw [show cf - 1 = 0 from by omega] at q
    exact ⟨rfl, HZ.out.ra (FsV.st q hB2) ((Below.refl _ w).alloc (Nat.le_refl _) _) (Nat.le_refl _)⟩
   ·go_meet
    exact ⟨rfl, HZ.out.ra (FsV.st (HPop.out (some ⟨gf, of + 1, none⟩) (fun _ => rfl) (by simp)) hB2) ((Below.refl _ w).alloc (Nat.le_refl _) _) (Nat.le_refl _)⟩
  case rest =>
   obtain ⟨rfl, R⟩ := hcut
   have HR := hid R
   have c28 := R.c28
   have fz := R.frz
   clear R
   go_wp2_with fail
   refine (belongs_any a.block f _).mono ?_
   rintro e w2 ⟨rfl, rfl⟩
   cases hb : belB a.block f with
   | true =>
    have EC : Hid (comS false f r a = innS f false a ⟨r, false⟩) := hid (by unfold comS; rw [hb]; rfl)
    clear hb
    go_wp2_with fail
    refine (inner_any g w.heap.size B w0 a f false ⟨r, false⟩ _ HR.out HK.out HE.out HS.out).mono ?_
    rintro e w3 ⟨rfl, h3⟩
    have H3 := hid h3
    clear h3
    go_wp2_with fail
    refine (zIx _ B _ _ H3.out.st).mono ?_
    rintro e w4 ⟨rfl, rfl⟩
    go_wp2_with fail
    go_ret
    rw [E.out, EC.out]
    exact ⟨rfl, H3.out.rz⟩
   | false =>
    have EC : Hid (comS false f r a = globS f { a with block := 0 } ⟨r, false⟩) := hid (by unfold comS; rw [hb]; rfl)
    have HR2 := hid HR.out.close
    clear hb
    go_wp2_with fail
    refine (global_any g w.heap.size B w0 { a with block := 0 } f ⟨r, false⟩ _ HR2.out HK.out.closed HE.out HS.out rfl).mono ?_
    rintro e w3 ⟨rfl, h3⟩
    have H3 := hid h3
    clear h3
    go_wp2_with fail
    refine (zIx _ B _ _ H3.out.st).mono ?_
    rintro e w4 ⟨rfl, rfl⟩
    go_wp2_with fail
    go_ret
    rw [E.out, EC.out]
    exact ⟨rfl, H3.out.rz⟩
 | true =>
  rw [hno] at q
  cases r with
  | nil =>
   have E : Hid (lineS [f] a = (a, false)) := hid (lineS_one a hno)
   clear h hk he hf hne hs hpop hno hB
   go_enter Tryz.func34, Tryz.ntmps34
   go_wp2_with fail
   all_goals
    go_ret
    rw [E.out]
    exact ⟨rfl, HZ.out⟩
  | cons word r =>
   have E : Hid (lineS (f :: word :: r) a = ((comS true word r a).1, doneB (comS true word r a).2)) := hid (lineS_yes a hno)
   have HS : Hid ((⟨r, false⟩ : Ps).short) := hid (fun x hx => hs x (List.mem_cons_of_mem _ (List.mem_cons_of_mem _ hx)))
   have hp1 : FsV w B (.slice (some ⟨gf, of + 1, none⟩) (r.length + 1) (cf - 1)) (word :: r) := hpop (some ⟨gf, of + 1, none⟩) (fun _ => rfl) (by simp)
   obtain ⟨gf', of', cf', e', c1, hcf1, -, hpop1⟩ := hp1.pop
   injection e' with e1 _ e3
   injection e1 with e1
   injection e1 with e1 e2 _
   subst e1 e2 e3
   have HPop1 := hid hpop1
   have hB2 := hB
   simp only [List.length_cons] at hcf hmf
   clear h hk he hf hne hs hpop hno hB hp1 hpop1
   have hn0 : ¬ (((r.length + 1 : Nat) : Int) = 0) := by omega
   have hz0 : (((r.length : Int) + 1) == 0) = false := by simp; omega
   have hc1 : ¬ (cf = 1) := by omega
   have hc2 : (1 : Nat) ≤ cf := by omega
   rw [List.length_cons]
   go_enter Tryz.func34, Tryz.ntmps34
   go_upto_region 7 with (fail)
   go_cut [1, 7] (fun f1 l0 wx => l0 = .pointer (some ⟨w.heap.size, 0, none⟩) ∧ RA g w.heap.size B w0 a ⟨r, false⟩ wx)
   case first =>
    go_wp2_with fail
    ·go_meet
     have q := HPop1.out (some ⟨gf, of + 1, none⟩) (fun h' => absurd (show cf - 1 = 1 by omega) h') (by simp)
     rw [show cf - 1 - 1 = 0 from by omega] at q
     exact ⟨rfl, HZ.out.ra (FsV.st q hB2) ((Below.refl _ w).alloc (Nat.le_refl _) _) (Nat.le_refl _)⟩
    ·go_meet
     exact ⟨rfl, HZ.out.ra (FsV.st (HPop1.out (some ⟨gf, of + 1 + 1, none⟩) (fun _ => rfl) (by simp)) hB2) ((Below.refl _ w).alloc (Nat.le_refl _) _) (Nat.le_refl _)⟩
   case rest =>
    obtain ⟨rfl, R⟩ := hcut
    have HR := hid R
    have c28 := R.c28
    have fz := R.frz
    clear R
    go_wp2_with fail
    refine (belongs_any a.block word _).mono ?_
    rintro e w2 ⟨rfl, rfl⟩
    cases hb : belB a.block word with
    | true =>
     have EC : Hid (comS true word r a = innS word true a ⟨r, false⟩) := hid (by unfold comS; rw [hb]; rfl)
     clear hb
     go_wp2_with fail
     refine (inner_any g w.heap.size B w0 a word true ⟨r, false⟩ _ HR.out HK.out HE.out HS.out).mono ?_
     rintro e w3 ⟨rfl, h3⟩
     have H3 := hid h3
     clear h3
     go_wp2_with fail
     refine (zIx _ B _ _ H3.out.st).mono ?_
     rintro e w4 ⟨rfl, rfl⟩
     go_wp2_with fail
     go_ret
     rw [E.out, EC.out]
     exact ⟨rfl, H3.out.rz⟩
    | false =>
     have EC : Hid (comS true word r a = remS word { a with block := 0 } ⟨r, false⟩) := hid (by unfold comS; rw [hb]; rfl)
     have HR2 := hid HR.out.close
     clear hb
     go_wp2_with fail
     refine (rremove_any g w.heap.size B w0 { a with block := 0 } word ⟨r, false⟩ _ HR2.out HK.out.closed HE.out HS.out rfl).mono ?_
     rintro e w3 ⟨rfl, h3⟩
     have H3 := hid h3
     clear h3
     go_wp2_with fail
     refine (zIx _ B _ _ H3.out.st).mono ?_
     rintro e w4 ⟨rfl, rfl⟩
     go_wp2_with fail
     go_ret
     rw [E.out, EC.out]
     exact ⟨rfl, H3.out.rz⟩
def rtE : Array Value := #[strV [], .int .i64 0, .slice none 0 0, .slice none 0 0, .slice none 0 0, .slice none 0 0, .slice none 0 0, .slice none 0 0, .bool false, .int .i64 0, .slice none 0 0, .slice none 0 0, .bool false, .int .i64 0, strV [], strV [], .slice none 0 0, .bool false, .int .i64 0, .int .i64 0, .slice none 0 0, .slice none 0 0, .slice none 0 0, .slice none 0 0, .slice none 0 0]
def plOf (m : Lm PRule) : PList := ⟨m.name, m.iv, m.items⟩
def rmOf (m : Lm Cl) : RMap := ⟨m.name, m.iv, m.items⟩
def alOf (m : Lm Ru) : AList := ⟨m.name, m.iv, m.items⟩
def Rt.plain (r : Rt) : Rt := { r with ifsV := .slice none 0 0, listsV := .slice none 0 0, mapsV := .slice none 0 0, aclsV := .slice none 0 0, natV := .slice none 0 0, statV := .slice none 0 0, rangesV := .slice none 0 0, lsRedV := .slice none 0 0, dvRedV := .slice none 0 0, nbV := .slice none 0 0, netV := .slice none 0 0, agV := .slice none 0 0, cdV := .slice none 0 0, pvRedV := .slice none 0 0, lists := r.lists.map (fun x => ⟨x.name, .slice none 0 0, x.rules⟩), maps := r.maps.map (fun x => ⟨x.name, .slice none 0 0, x.clauses⟩), acls := r.acls.map (fun x => ⟨x.name, .slice none 0 0, x.rules⟩) }
def alRt (a : Al) : Rt where
 name := a.name
 asn := a.asn
 ifsV := .slice none 0 0
 listsV := .slice none 0 0
 mapsV := .slice none 0 0
 aclsV := .slice none 0 0
 natV := .slice none 0 0
 statV := .slice none 0 0
 lsOn := a.lsOn
 lsAdmin := a.lsAdmin
 rangesV := .slice none 0 0
 lsRedV := .slice none 0 0
 dvOn := a.dvOn
 dvAdmin := a.dvAdmin
 dvIn := a.dvIn
 dvOut := a.dvOut
 dvRedV := .slice none 0 0
 pvOn := a.pvOn
 ext := a.ext
 int := a.int
 nbV := .slice none 0 0
 netV := .slice none 0 0
 agV := .slice none 0 0
 cdV := .slice none 0 0
 pvRedV := .slice none 0 0
 ifs := a.ifs
 lists := a.lists.map (fun x => ⟨x.name, .slice none 0 0, x.items⟩)
 maps := a.maps.map (fun x => ⟨x.name, .slice none 0 0, x.items⟩)
 acls := a.acls.map (fun x => ⟨x.name, .slice none 0 0, x.items⟩)
 nat := a.nat
 stat := a.stat
 ranges := a.ranges
 lsRed := a.lsRed
 dvRed := a.dvRed
 nb := a.nb
 net := a.net
 ag := a.ag
 cd := a.cd
 pvRed := a.pvRed
def rtF (a : Al) (v : Av) (L M A : Value) (ls : List PList) (mp : List RMap) (ac : List AList) : Rt := { rtZ a v with listsV := L, mapsV := M, aclsV := A, lists := ls, maps := mp, acls := ac }
structure RO (br bx : Nat) (w0 : World) (cs : Array Value) (rs : List Orow) (w : World) : Prop where
 res : HasC 41 br rtE w
 has : HasC 41 bx cs w
 own : OwnAll w (bx + 1) rs
 bel : Below w0.heap.size w0 w
 lo : w0.heap.size ≤ br
 lt : br < bx
section
variable {br bx : Nat} {w0 w w' : World} {cs cs' : Array Value} {rs pre post : List Orow} {r r' : Orow}
theorem RO.keep (h : RO br bx w0 cs rs w) (hb : Below w.heap.size w w') : RO br bx w0 cs rs w' :=
 ⟨h.res.keep hb, h.has.keep hb, h.own.below hb, h.bel.trans (hb.mono h.bel.size), h.lo, h.lt⟩
theorem RO.row (h : RO br bx w0 cs (pre ++ r :: post) w) (hg : w.grownBy w' r.v.ownBlock) (ho : r'.own w' (bx + 1)) (hn : r'.v.ownBlock = r.v.ownBlock ∨ r'.v.ownBlock = none ∨ ∃ k, r'.v.ownBlock = some k ∧ w.heap.size ≤ k) : RO br bx w0 cs (pre ++ r' :: post) w' := by
 have h1 := h.lo
 have h2 := h.lt
 have h3 := h.bel.size
 have hk : ∀ k, r.v.ownBlock = some k → bx + 1 ≤ k := fun k e => (Orow.own.lt (h.own.1 r (by simp)) e).2
 refine ⟨h.res.grown hg (fun e => ?_), h.has.grown hg (fun e => ?_), h.own.upd hg ho hn, h.bel.trans ((Fr.of_grown (rs := blks [r]) hg (fun g e => List.mem_filterMap.2 ⟨r, by simp, e⟩)).below (fun k hm => ?_) h3), h1, h2⟩
 ·have := hk _ e.symm; omega
 ·have := hk _ e.symm; omega
 ·obtain ⟨x, hx, e⟩ := List.mem_filterMap.1 hm
  obtain rfl := List.mem_singleton.1 hx
  have := hk _ e; omega
theorem RO.put (h : RO br bx w0 cs rs w) (j : Nat) (v : Value) (e : cs.setIfInBounds j v = cs') : RO br bx w0 cs' rs (w.setCell ⟨bx, j, none⟩ v) := by
 have h1 := h.lo
 have h2 := h.lt
 have h3 := h.bel.size
 have hg := zBj w bx j v
 refine ⟨h.res.grown hg (fun e => by have := Option.some.inj e; omega), ?_, h.own.frame hg (fun k hk hm => by have := (OwnAll.lt h.own hm).2; have := Option.some.inj hk; omega), h.bel.trans ((Fr.of_grown (rs := [bx]) hg (fun g e => by rw [← Option.some.inj e]; simp)).below (fun k hm => by have := List.mem_singleton.1 hm; omega) h3), h1, h2⟩
 subst e
 exact Lib.heap_setCell_same (i := j) h.has v
end
theorem HasC.loadR {P : Program} {T : TypeId} {g : Nat} {cs : Array Value} {w : World} (h : HasC T g cs w) (hr : (P.underlying T).map TypeDesc.isRow = some true) (hs : (P.info? T).map (·.size) = some cs.size) : (loadVar T ⟨g, 0, none⟩).run P w = .ok (.agg cs) w := by
 obtain ⟨d, hu, hd⟩ := row_of hr
 have := run_loadVar_mid (P := P) w g 0 T cs.toList d h.range hu hd (by simpa using hs)
 simpa using this
theorem OwnAll.own' {w : World} {B : Nat} {rs : List Orow} (h : OwnAll w B rs) {α : Type} {Te : TypeId} {n : Nat} {cells : α → Array Value} {x : Value} {l : List α} (hm : rowE Te n cells x l ∈ rs) : OwnE w B Te n cells x l := h.1 _ hm
theorem rtZ_at {a : Al} {v : Av} {w : World} {B : Nat} (h : OwnAll w B (AlR a v)) : (rtZ a v).at w w.heap.size where
 hifs := OwnE.slv (v := v.ifs) (l := a.ifs) (T := 68) (h.own' (by simp [AlR]))
 hlists := (OwnE.nil (B := 0) (T := 0) (n := 2) (cells := PList.C)).slv
 nlists := fun _ h => by cases h
 hmaps := (OwnE.nil (B := 0) (T := 0) (n := 2) (cells := RMap.C)).slv
 nmaps := fun _ h => by cases h
 hacls := (OwnE.nil (B := 0) (T := 0) (n := 2) (cells := AList.C)).slv
 nacls := fun _ h => by cases h
 hnat := OwnE.slv (v := v.nat) (l := a.nat) (T := 70) (h.own' (by simp [AlR]))
 hstat := OwnE.slv (v := v.stat) (l := a.stat) (T := 74) (h.own' (by simp [AlR]))
 hranges := OwnE.slv (v := v.ranges) (l := a.ranges) (T := 113) (h.own' (by simp [AlR]))
 hlsRed := OwnE.slv (v := v.lsRed) (l := a.lsRed) (T := 151) (h.own' (by simp [AlR]))
 hdvRed := OwnE.slv (v := v.dvRed) (l := a.dvRed) (T := 151) (h.own' (by simp [AlR]))
 hnb := OwnE.slv (v := v.nb) (l := a.nb) (T := 115) (h.own' (by simp [AlR]))
 hnet := OwnE.slv (v := v.net) (l := a.net) (T := 72) (h.own' (by simp [AlR]))
 hag := OwnE.slv (v := v.ag) (l := a.ag) (T := 117) (h.own' (by simp [AlR]))
 hcd := OwnE.slv (v := v.cd) (l := a.cd) (T := 119) (h.own' (by simp [AlR]))
 hpvRed := OwnE.slv (v := v.pvRed) (l := a.pvRed) (T := 151) (h.own' (by simp [AlR]))
theorem SlV.lift {α : Type} {w : World} {B B' n : Nat} {cells : α → Array Value} {v : Value} {xs : List α} (h : SlV w B n cells v xs) (hB : B ≤ B') : SlV w B' n cells v xs := by
 obtain ⟨A, c, e, h1, h2⟩ := h
 exact ⟨A, c, e, h1, h2.mono hB⟩
theorem Rt.at.lift {w : World} {B B' : Nat} {r : Rt} (h : r.at w B) (hB : B ≤ B') : r.at w B' := ⟨h.hifs.lift hB, h.hlists.lift hB, fun x hx => SlV.lift (h.nlists x hx) hB, h.hmaps.lift hB, fun x hx => SlV.lift (h.nmaps x hx) hB, h.hacls.lift hB, fun x hx => SlV.lift (h.nacls x hx) hB, h.hnat.lift hB, h.hstat.lift hB, h.hranges.lift hB, h.hlsRed.lift hB, h.hdvRed.lift hB, h.hnb.lift hB, h.hnet.lift hB, h.hag.lift hB, h.hcd.lift hB, h.hpvRed.lift hB⟩
theorem AlR_mem {a : Al} {v : Av} : (∀ m ∈ v.lm, rowE 96 5 PRule.C m.iv m.items ∈ AlR a v) ∧ (∀ m ∈ v.mm, rowE 101 7 Cl.C m.iv m.items ∈ AlR a v) ∧ (∀ m ∈ v.am, rowE 110 10 Ru.C m.iv m.items ∈ AlR a v) := by
 refine ⟨fun m hmem => ?_, fun m hmem => ?_, fun m hmem => ?_⟩ <;> simp only [AlR, rowsP, rowsM, rowsA, zAq, List.mem_cons, List.mem_append, List.mem_flatMap]
 ·exact .inr (.inr (.inr (.inr (.inr (.inr (.inr (.inr (.inr (.inr (.inr (.inl (.inl (.inr ⟨m, hmem, by simp [Lm.rows]⟩)))))))))))))
 ·exact .inr (.inr (.inr (.inr (.inr (.inr (.inr (.inr (.inr (.inr (.inr (.inl (.inr (.inr ⟨m, hmem, by simp [Lm.rows]⟩)))))))))))))
 ·exact .inr (.inr (.inr (.inr (.inr (.inr (.inr (.inr (.inr (.inr (.inr (.inr (.inr ⟨m, hmem, by simp [Lm.rows]⟩))))))))))))
theorem rtF_at {a : Al} {v : Av} {w wx : World} {B B2 : Nat} {L M A : Value} (ho : OwnAll w B (AlR a v)) (hown : OwnAll wx B2 [rowE 94 2 PList.C L (v.lm.map plOf), rowE 99 2 RMap.C M (v.mm.map rmOf), rowE 104 2 AList.C A (v.am.map alOf)]) (hb : Below w.heap.size w wx) :
  (rtF a v L M A (v.lm.map plOf) (v.mm.map rmOf) (v.am.map alOf)).at wx wx.heap.size := by
 have hz := ((rtZ_at ho).below hb).lift hb.size
 refine ⟨hz.hifs, OwnE.slv (v := L) (l := v.lm.map plOf) (T := 94) (hown.own' (by simp)), fun x hx => ?_, OwnE.slv (v := M) (l := v.mm.map rmOf) (T := 99) (hown.own' (by simp)), fun x hx => ?_, OwnE.slv (v := A) (l := v.am.map alOf) (T := 104) (hown.own' (by simp)), fun x hx => ?_, hz.hnat, hz.hstat, hz.hranges, hz.hlsRed, hz.hdvRed, hz.hnb, hz.hnet, hz.hag, hz.hcd, hz.hpvRed⟩
 ·obtain ⟨m, hm, rfl⟩ := List.mem_map.1 hx
  exact ((OwnE.slv (ho.own' (AlR_mem.1 m hm))).below hb).lift hb.size
 ·obtain ⟨m, hm, rfl⟩ := List.mem_map.1 hx
  exact ((OwnE.slv (ho.own' (AlR_mem.2.1 m hm))).below hb).lift hb.size
 ·obtain ⟨m, hm, rfl⟩ := List.mem_map.1 hx
  exact ((OwnE.slv (ho.own' (AlR_mem.2.2 m hm))).below hb).lift hb.size
theorem rtF_plain {a : Al} {v : Av} {L M A : Value} (h1 : a.lists = v.lm.map Lm.ls) (h2 : a.maps = v.mm.map Lm.ls) (h3 : a.acls = v.am.map Lm.ls) : (rtF a v L M A (v.lm.map plOf) (v.mm.map rmOf) (v.am.map alOf)).plain = alRt a := by
 unfold alRt
 rw [h1, h2, h3]
 unfold Rt.plain rtF rtZ
 simp only [List.map_map]
 rfl
theorem take_snoc {α : Type} {l : List α} {j : Nat} (h : j < l.length) : l.take (j + 1) = l.take j ++ [l[j]] := by
 rw [List.take_add_one, List.getElem?_eq_getElem h]
 rfl
theorem Tryz.infoOPList : (Tryz.prog.info? 94).map (fun i => (i.zero.map (fun z => z.cells.size), i.size, i.bytes)) = some (some 2, 2, 40) := by kernel_rfl
theorem Tryz.infoORMap : (Tryz.prog.info? 99).map (fun i => (i.zero.map (fun z => z.cells.size), i.size, i.bytes)) = some (some 2, 2, 40) := by kernel_rfl
theorem Tryz.infoOAList : (Tryz.prog.info? 104).map (fun i => (i.zero.map (fun z => z.cells.size), i.size, i.bytes)) = some (some 2, 2, 40) := by kernel_rfl
theorem router_any (g B : Nat) (w0 : World) (a : Al) (w : World) (h : RZ g B w0 a w) (hk : AlOk 1000000 a) :
  Calls Tryz.prog 35 #[.pointer (some ⟨g, 0, none⟩)] w fun e w' => ∃ r : Rt, e = .returned (.agg r.C) ∧ Below w.heap.size w w' ∧ r.plain = alRt a ∧ ∀ (ks : List Nat) w'', (∀ k ∈ ks, k < B) → Fr ks w' w'' → r.at w'' w''.heap.size := by
 obtain ⟨v, ⟨h1, h2, -, -, -, hgB⟩, ⟨hl1, hl2, hl3⟩, -, -⟩ := h
 have hg := zBp h1
 have H1 := hid h1
 have HOW := hid h2
 have HL1 := hid hl1
 have HL2 := hid hl2
 have HL3 := hid hl3
 have hm1 : v.lm.length ≤ 1000000 := by have := hk.lists.1; rw [hl1] at this; simpa using this
 have hm2 : v.mm.length ≤ 1000000 := by have := hk.maps.1; rw [hl2] at this; simpa using this
 have hm3 : v.am.length ≤ 1000000 := by have := hk.acls.1; rw [hl3] at this; simpa using this
 have HM1 := hid hm1
 have HM2 := hid hm2
 have HM3 := hid hm3
 have ho0 : OwnE w B 135 3 Lm.C v.lists v.lm := h2.1 (rowE 135 3 Lm.C v.lists v.lm) (by simp [AlR, rowsP, zAq])
 have HS0 := hid ho0.slv
 obtain ⟨A0, c0, e0, -⟩ := ho0.slv
 have EV0 := hid e0
 have ho1 : OwnE w B 137 3 Lm.C v.maps v.mm := h2.1 (rowE 137 3 Lm.C v.maps v.mm) (by simp [AlR, rowsM, zAq])
 have HS1 := hid ho1.slv
 obtain ⟨A1, c1, e1, -⟩ := ho1.slv
 have EV1 := hid e1
 have ho2 : OwnE w B 139 3 Lm.C v.acls v.am := h2.1 (rowE 139 3 Lm.C v.acls v.am) (by simp [AlR, rowsA, zAq])
 have HS2 := hid ho2.slv
 obtain ⟨A2, c2, e2, -⟩ := ho2.slv
 have EV2 := hid e2
 have hR : w.rangeAt g 0 (rtZ a v).C.toList := by
  have := World.rangeAt_of_block h1 0 25
  rwa [Nat.zero_add, rtZ_C] at this
 have HONE : Hid ((rtZ a v).C.all (·.oneCell') = true) := hid (rtZ_at h2).one
 have B1 := (Below.refl w.heap.size w).alloc (Nat.le_refl _) (.cells rtE 41)
 have HR := hid (zAh hR B1 hg)
 clear h1 h2 hl1 hl2 hl3 hm1 hm2 hm3 hk hR ho0 ho1 ho2 e0 e1 e2
 go_enter Tryz.func35, Tryz.ntmps35
 go_upto_region 1 with (fail)
 have HRES := hid (HasC.new w 41 rtE)
 have HB1 := hid B1
 clear B1
 change Code.wp _ _ _ _ (w.alloc (.cells rtE 41))
 generalize w.alloc (.cells rtE 41) = wA at HR HRES HB1 ⊢
 go_upto_region 2 with (first | (refine zAa rfl _ _ rfl rfl HR.out Tryz.rowRt Tryz.sizeRt ?_) | (refine zAe rfl 41 _ _ rfl rfl (ds := (rtZ a v).C) rfl (HasC.new _ _ _) rfl Tryz.sizeRt HONE.out ?_; intro w5 hz1 hz2))
 have hlt := zBp HRES.out
 have RZ0 : RO w.heap.size wA.heap.size w (rtF a v (.slice none 0 0) (.slice none 0 0) (.slice none 0 0) [] [] []).C [rowE 94 2 PList.C (.slice none 0 0) [], rowE 99 2 RMap.C (.slice none 0 0) [], rowE 104 2 AList.C (.slice none 0 0) []] w5 := by
  refine ⟨HRES.out.keep (zAn hz2), hz1, ⟨fun r hr => ?_, ?_⟩, HB1.out.trans ((zAn hz2).mono HB1.out.size), Nat.le_refl _, hlt⟩
  ·simp only [List.mem_cons, List.not_mem_nil, or_false] at hr
   rcases hr with rfl | rfl | rfl
   ·exact OwnE.nil (cells := PList.C)
   ·exact OwnE.nil (cells := RMap.C)
   ·exact OwnE.nil (cells := AList.C)
  ·exact List.nodup_nil
 have H5 := hid RZ0
 clear RZ0 hz1 hz2 HR HRES HB1 HONE hlt
 have c25 : w5.cell? ⟨g, 25, none⟩ = .some (.slice A0 v.lm.length c0) := by rw [← EV0.out]; exact (HasC.below H1.out H5.out.bel hg).cell 25
 go_wp2_with fail
 clear c25
 go_loopg [19] v.lm.length (fun gh ix wr => ∃ (j : Nat) (V0 : Value), j + gh = v.lm.length ∧ ix = .int .i64 j ∧ Hid (RO w.heap.size wA.heap.size w (rtF a v V0 (.slice none 0 0) (.slice none 0 0) ((v.lm.take j).map plOf) [] []).C [rowE 94 2 PList.C V0 ((v.lm.take j).map plOf), rowE 99 2 RMap.C (.slice none 0 0) [], rowE 104 2 AList.C (.slice none 0 0) []] wr))
 case atStart => exact ⟨0, .slice none 0 0, by omega, rfl, H5⟩
 case round =>
  obtain ⟨j, V0, hj, rfl, HR⟩ := hrel
  by_cases hjl : j < v.lm.length
  case pos =>
   obtain ⟨g', o', c'', e', -, hg', R0⟩ := HS0.out.elem (n := 3) (by decide) (fun _ => rfl) hjl
   rw [EV0.out] at e'
   injection e' with e1 e2 e3
   subst e1 e3
   have r1 := hid (zAh R0 HR.out.bel hg')
   obtain ⟨m, hm⟩ : ∃ m, m = v.lm[j] := ⟨_, rfl⟩
   rw [← hm] at r1
   have HM := hid hm
   clear hm R0 e2
   have hjz : (j : Int) < (v.lm.length : Int) := by omega
   have hmx := HM1.out
   go_upto_region 5 with (first | (refine zAa rfl 135 _ rfl rfl r1.out Tryz.rowLPRule Tryz.sizeLPRule ?_) | (refine zAe rfl 135 _ _ rfl rfl rfl (HasC.new wr _ _) rfl Tryz.sizeLPRule (Lm.one m) ?_; intro w6 hz1 hz2))
   have H6 := hid (HR.out.keep (zAn hz2))
   have X6 := hid hz1
   clear hz1 hz2 r1 HR
   generalize wr.heap.size = gy at X6 ⊢
   have x0 : w6.cell? ⟨gy, 0, none⟩ = .some (.string (str m.name)) := X6.out.cell 0
   have hmem : m ∈ v.lm := by rw [HM.out]; exact List.getElem_mem _
   have hoI : OwnE w B 96 5 PRule.C m.iv m.items := HOW.out.own' (AlR_mem.1 m hmem)
   obtain ⟨Ai, ci, hiv, -⟩ := hoI.slv
   have HX : Hid (plOf m = ⟨m.name, .slice Ai m.items.length ci, m.items⟩) := hid (by unfold plOf; rw [hiv])
   have x2 : w6.cell? ⟨gy, 2, none⟩ = .some (.slice Ai m.items.length ci) := by rw [← hiv]; exact X6.out.cell 2
   clear hoI hmem hiv
   have d3 : w6.cell? ⟨wA.heap.size, 3, none⟩ = .some V0 := H6.out.has.cell 3
   have HO1 : OwnE w6 (wA.heap.size + 1) 94 2 PList.C V0 ((v.lm.take j).map plOf) := H6.out.own.own' (by simp)
   obtain ⟨A5, m5, c5, w7, hr, ho5, hg5, hn5⟩ := HO1.push (P := Tryz.prog) (zBp H6.out.has) Tryz.underlying23 Tryz.infoOPList (by decide) (fun _ => rfl) (⟨m.name, .slice Ai m.items.length ci, m.items⟩ : PList) (PList.one _ rfl) (by have := HM1.out; simp only [List.length_map, List.length_take]; omega) (by decide) 23
   have R7 := RO.row (pre := []) (post := [rowE 99 2 RMap.C (.slice none 0 0) [], rowE 104 2 AList.C (.slice none 0 0) []]) (r' := rowE 94 2 PList.C (.slice A5 m5 c5) ((v.lm.take j).map plOf ++ [(⟨m.name, .slice Ai m.items.length ci, m.items⟩ : PList)])) H6.out hg5 ho5 hn5
   rw [show (v.lm.take j).map plOf ++ [(⟨m.name, .slice Ai m.items.length ci, m.items⟩ : PList)] = (v.lm.take (j + 1)).map plOf from by rw [take_snoc hjl, List.map_append, ← HM.out, ← HX.out]; rfl] at R7
   have H7 := hid R7
   have HRun := hid hr
   have d7 : w7.cell? ⟨wA.heap.size, 3, none⟩ = .some V0 := R7.has.cell 3
   have fz := R7.has.frz
   clear R7 hr ho5 hg5 hn5 HO1
   go_wp2_with (at_builtin; refine Lib.wpList_append_run _ rfl _ _ _ _ rfl _ _ rfl rfl _ _ HRun.out ?_)
   go_roundg (v.lm.length - (j + 1))
   case measure => omega
   case rel => exact ⟨j + 1, .slice A5 m5 c5, by omega, by go_num, hid (H7.out.put (cs' := (rtF a v (.slice A5 m5 c5) (.slice none 0 0) (.slice none 0 0) ((v.lm.take (j + 1)).map plOf) [] []).C) 3 (.slice A5 m5 c5) rfl)⟩
  have R9 := HR.out
  rw [List.take_of_length_le (by omega)] at R9
  have H90 := hid R9
  have hjz : ¬ ((j : Int) < (v.lm.length : Int)) := by omega
  clear R9 HR hjl hj
  generalize wr = w90 at H90 ⊢
  have c26 : w90.cell? ⟨g, 26, none⟩ = .some (.slice A1 v.mm.length c1) := by rw [← EV1.out]; exact (HasC.below H1.out H90.out.bel hg).cell 26
  go_wp2_with fail
  clear c26
  go_loopg [39] v.mm.length (fun gh ix wr => ∃ (j : Nat) (V1 : Value), j + gh = v.mm.length ∧ ix = .int .i64 j ∧ Hid (RO w.heap.size wA.heap.size w (rtF a v V0 V1 (.slice none 0 0) (v.lm.map plOf) ((v.mm.take j).map rmOf) []).C [rowE 94 2 PList.C V0 (v.lm.map plOf), rowE 99 2 RMap.C V1 ((v.mm.take j).map rmOf), rowE 104 2 AList.C (.slice none 0 0) []] wr))
  case atStart => exact ⟨0, .slice none 0 0, by omega, rfl, H90⟩
  case round =>
   obtain ⟨j, V1, hj, rfl, HR⟩ := hrel
   by_cases hjl : j < v.mm.length
   case pos =>
    obtain ⟨g', o', c'', e', -, hg', R0⟩ := HS1.out.elem (n := 3) (by decide) (fun _ => rfl) hjl
    rw [EV1.out] at e'
    injection e' with e1 e2 e3
    subst e1 e3
    have r1 := hid (zAh R0 HR.out.bel hg')
    obtain ⟨m, hm⟩ : ∃ m, m = v.mm[j] := ⟨_, rfl⟩
    rw [← hm] at r1
    have HM := hid hm
    clear hm R0 e2
    have hjz : (j : Int) < (v.mm.length : Int) := by omega
    have hmx := HM2.out
    go_upto_region 10 with (first | (refine zAa rfl 137 _ rfl rfl r1.out Tryz.rowLCl Tryz.sizeLCl ?_) | (refine zAe rfl 137 _ _ rfl rfl rfl (HasC.new wr _ _) rfl Tryz.sizeLCl (Lm.one m) ?_; intro w6 hz1 hz2))
    have H6 := hid (HR.out.keep (zAn hz2))
    have X6 := hid hz1
    clear hz1 hz2 r1 HR
    generalize wr.heap.size = gy at X6 ⊢
    have x0 : w6.cell? ⟨gy, 0, none⟩ = .some (.string (str m.name)) := X6.out.cell 0
    have hmem : m ∈ v.mm := by rw [HM.out]; exact List.getElem_mem _
    have hoI : OwnE w B 101 7 Cl.C m.iv m.items := HOW.out.own' (AlR_mem.2.1 m hmem)
    obtain ⟨Ai, ci, hiv, -⟩ := hoI.slv
    have HX : Hid (rmOf m = ⟨m.name, .slice Ai m.items.length ci, m.items⟩) := hid (by unfold rmOf; rw [hiv])
    have x2 : w6.cell? ⟨gy, 2, none⟩ = .some (.slice Ai m.items.length ci) := by rw [← hiv]; exact X6.out.cell 2
    clear hoI hmem hiv
    have d3 : w6.cell? ⟨wA.heap.size, 4, none⟩ = .some V1 := H6.out.has.cell 4
    have HO1 : OwnE w6 (wA.heap.size + 1) 99 2 RMap.C V1 ((v.mm.take j).map rmOf) := H6.out.own.own' (by simp)
    obtain ⟨A5, m5, c5, w7, hr, ho5, hg5, hn5⟩ := HO1.push (P := Tryz.prog) (zBp H6.out.has) Tryz.underlying24 Tryz.infoORMap (by decide) (fun _ => rfl) (⟨m.name, .slice Ai m.items.length ci, m.items⟩ : RMap) (RMap.one _ rfl) (by have := HM2.out; simp only [List.length_map, List.length_take]; omega) (by decide) 24
    have R7 := RO.row (pre := [rowE 94 2 PList.C V0 (v.lm.map plOf)]) (post := [rowE 104 2 AList.C (.slice none 0 0) []]) (r' := rowE 99 2 RMap.C (.slice A5 m5 c5) ((v.mm.take j).map rmOf ++ [(⟨m.name, .slice Ai m.items.length ci, m.items⟩ : RMap)])) H6.out hg5 ho5 hn5
    rw [show (v.mm.take j).map rmOf ++ [(⟨m.name, .slice Ai m.items.length ci, m.items⟩ : RMap)] = (v.mm.take (j + 1)).map rmOf from by rw [take_snoc hjl, List.map_append, ← HM.out, ← HX.out]; rfl] at R7
    have H7 := hid R7
    have HRun := hid hr
    have d7 : w7.cell? ⟨wA.heap.size, 4, none⟩ = .some V1 := R7.has.cell 4
    have fz := R7.has.frz
    clear R7 hr ho5 hg5 hn5 HO1
    go_wp2_with (at_builtin; refine Lib.wpList_append_run _ rfl _ _ _ _ rfl _ _ rfl rfl _ _ HRun.out ?_)
    go_roundg (v.mm.length - (j + 1))
    case measure => omega
    case rel => exact ⟨j + 1, .slice A5 m5 c5, by omega, by go_num, hid (H7.out.put (cs' := (rtF a v V0 (.slice A5 m5 c5) (.slice none 0 0) (v.lm.map plOf) ((v.mm.take (j + 1)).map rmOf) []).C) 4 (.slice A5 m5 c5) rfl)⟩
   have R9 := HR.out
   rw [List.take_of_length_le (by omega)] at R9
   have H91 := hid R9
   have hjz : ¬ ((j : Int) < (v.mm.length : Int)) := by omega
   clear R9 HR hjl hj
   generalize wr = w91 at H91 ⊢
   have c27 : w91.cell? ⟨g, 27, none⟩ = .some (.slice A2 v.am.length c2) := by rw [← EV2.out]; exact (HasC.below H1.out H91.out.bel hg).cell 27
   go_wp2_with fail
   clear c27
   go_loopg [59] v.am.length (fun gh ix wr => ∃ (j : Nat) (V2 : Value), j + gh = v.am.length ∧ ix = .int .i64 j ∧ Hid (RO w.heap.size wA.heap.size w (rtF a v V0 V1 V2 (v.lm.map plOf) (v.mm.map rmOf) ((v.am.take j).map alOf)).C [rowE 94 2 PList.C V0 (v.lm.map plOf), rowE 99 2 RMap.C V1 (v.mm.map rmOf), rowE 104 2 AList.C V2 ((v.am.take j).map alOf)] wr))
   case atStart => exact ⟨0, .slice none 0 0, by omega, rfl, H91⟩
   case round =>
    obtain ⟨j, V2, hj, rfl, HR⟩ := hrel
    by_cases hjl : j < v.am.length
    case pos =>
     obtain ⟨g', o', c'', e', -, hg', R0⟩ := HS2.out.elem (n := 3) (by decide) (fun _ => rfl) hjl
     rw [EV2.out] at e'
     injection e' with e1 e2 e3
     subst e1 e3
     have r1 := hid (zAh R0 HR.out.bel hg')
     obtain ⟨m, hm⟩ : ∃ m, m = v.am[j] := ⟨_, rfl⟩
     rw [← hm] at r1
     have HM := hid hm
     clear hm R0 e2
     have hjz : (j : Int) < (v.am.length : Int) := by omega
     have hmx := HM3.out
     go_upto_region 15 with (first | (refine zAa rfl 139 _ rfl rfl r1.out Tryz.rowLRu Tryz.sizeLRu ?_) | (refine zAe rfl 139 _ _ rfl rfl rfl (HasC.new wr _ _) rfl Tryz.sizeLRu (Lm.one m) ?_; intro w6 hz1 hz2))
     have H6 := hid (HR.out.keep (zAn hz2))
     have X6 := hid hz1
     clear hz1 hz2 r1 HR
     generalize wr.heap.size = gy at X6 ⊢
     have x0 : w6.cell? ⟨gy, 0, none⟩ = .some (.string (str m.name)) := X6.out.cell 0
     have hmem : m ∈ v.am := by rw [HM.out]; exact List.getElem_mem _
     have hoI : OwnE w B 110 10 Ru.C m.iv m.items := HOW.out.own' (AlR_mem.2.2 m hmem)
     obtain ⟨Ai, ci, hiv, -⟩ := hoI.slv
     have HX : Hid (alOf m = ⟨m.name, .slice Ai m.items.length ci, m.items⟩) := hid (by unfold alOf; rw [hiv])
     have x2 : w6.cell? ⟨gy, 2, none⟩ = .some (.slice Ai m.items.length ci) := by rw [← hiv]; exact X6.out.cell 2
     clear hoI hmem hiv
     have d3 : w6.cell? ⟨wA.heap.size, 5, none⟩ = .some V2 := H6.out.has.cell 5
     have HO1 : OwnE w6 (wA.heap.size + 1) 104 2 AList.C V2 ((v.am.take j).map alOf) := H6.out.own.own' (by simp)
     obtain ⟨A5, m5, c5, w7, hr, ho5, hg5, hn5⟩ := HO1.push (P := Tryz.prog) (zBp H6.out.has) Tryz.underlying25 Tryz.infoOAList (by decide) (fun _ => rfl) (⟨m.name, .slice Ai m.items.length ci, m.items⟩ : AList) (AList.one _ rfl) (by have := HM3.out; simp only [List.length_map, List.length_take]; omega) (by decide) 25
     have R7 := RO.row (pre := [rowE 94 2 PList.C V0 (v.lm.map plOf), rowE 99 2 RMap.C V1 (v.mm.map rmOf)]) (post := []) (r' := rowE 104 2 AList.C (.slice A5 m5 c5) ((v.am.take j).map alOf ++ [(⟨m.name, .slice Ai m.items.length ci, m.items⟩ : AList)])) H6.out hg5 ho5 hn5
     rw [show (v.am.take j).map alOf ++ [(⟨m.name, .slice Ai m.items.length ci, m.items⟩ : AList)] = (v.am.take (j + 1)).map alOf from by rw [take_snoc hjl, List.map_append, ← HM.out, ← HX.out]; rfl] at R7
     have H7 := hid R7
     have HRun := hid hr
     have d7 : w7.cell? ⟨wA.heap.size, 5, none⟩ = .some V2 := R7.has.cell 5
     have fz := R7.has.frz
     clear R7 hr ho5 hg5 hn5 HO1
     go_wp2_with (at_builtin; refine Lib.wpList_append_run _ rfl _ _ _ _ rfl _ _ rfl rfl _ _ HRun.out ?_)
     go_roundg (v.am.length - (j + 1))
     case measure => omega
     case rel => exact ⟨j + 1, .slice A5 m5 c5, by omega, by go_num, hid (H7.out.put (cs' := (rtF a v V0 V1 (.slice A5 m5 c5) (v.lm.map plOf) (v.mm.map rmOf) ((v.am.take (j + 1)).map alOf)).C) 5 (.slice A5 m5 c5) rfl)⟩
    have R9 := HR.out
    rw [List.take_of_length_le (by omega)] at R9
    have H92 := hid R9
    have hjz : ¬ ((j : Int) < (v.am.length : Int)) := by omega
    clear R9 HR hjl hj
    have HAT := hid (rtF_at HOW.out H92.out.own H92.out.bel)
    have HPL := hid (rtF_plain (L := V0) (M := V1) (A := V2) HL1.out HL2.out HL3.out)
    go_wp2_with (first | (refine zAa rfl _ _ rfl rfl H92.out.has.range Tryz.rowRt Tryz.sizeRt ?_) | (refine zAe rfl 41 _ _ rfl rfl rfl H92.out.res rfl Tryz.sizeRt HAT.out.one ?_; intro wz hz1 hz2))
    refine bodyPost_ret (results_cell rfl rfl (hz1.loadR Tryz.rowRt Tryz.sizeRt)) rfl ?_
    have hb : Below w.heap.size w wz := H92.out.bel.trans (zAs hz2 (Nat.le_refl _) H92.out.bel.size)
    have ho1 : OwnAll wz (wA.heap.size + 1) _ := H92.out.own.frame hz2 (fun k hk hm => by have := (OwnAll.lt H92.out.own hm).2; have := H92.out.lt; have := Option.some.inj hk; omega)
    have ho2 := OwnAll.below HOW.out hb
    have hlo := H92.out.lo
    have hlt := H92.out.lt
    refine ⟨_, rfl, hb, HPL.out, fun ks w2 hk hf => rtF_at (OwnAll.fr ho2 hf (fun x hx hm => ?_)) (OwnAll.fr ho1 hf (fun x hx hm => ?_)) (Below.refl _ _)⟩
    ·have h1 := (OwnAll.lt ho2 hx).2
     have h2 := hk _ hm
     omega
    ·have h1 := (OwnAll.lt ho1 hx).2
     have h2 := hk _ hm
     omega
theorem own_below {w w' : World} {base : Nat} {e : TypeId} {size n : Nat} {v : Value} {xs : List Value} (h : w.ownsRow base e size v n xs) (hb : Below w.heap.size w w') : w'.ownsRow base e size v n xs :=
 h.kept (row := none) ⟨hb.os, hb.tape, hb.output, hb.size, fun k hk _ => hb.block k hk⟩ (by cases hv : v.ownBlock <;> simp)
def SlN (w : World) (row : Option Nat) (u : Value) (ls : List (List UInt8)) : Prop :=
 ∃ A c, u = .slice A ls.length c ∧ ls.length ≤ c ∧ ls.length ≤ maxLen ∧ (A = none → c = 0) ∧ (0 < ls.length → ∃ g o, A = some ⟨g, o, none⟩ ∧ g < w.heap.size ∧ row ≠ some g ∧ ∀ (j : Nat) t, ls[j]? = some t → w.cell? ⟨g, o + j, none⟩ = some (strV t))
theorem SlN.grown {w w' : World} {row row' : Option Nat} {u : Value} {ls : List (List UInt8)} (h : SlN w row u ls) (hg : w.grownBy w' row) (hr : row' = row ∨ ∃ k, w.heap.size ≤ k ∧ row' = some k) : SlN w' row' u ls := by
 obtain ⟨A, c, rfl, h1, h2, h3, h4⟩ := h
 refine ⟨A, c, rfl, h1, h2, h3, fun h0 => ?_⟩
 obtain ⟨g, o, rfl, hgl, hne, hc⟩ := h4 h0
 refine ⟨g, o, rfl, Nat.lt_of_lt_of_le hgl hg.size, ?_, fun j t ht => hg.cell (hc j t ht) (fun e => hne e.symm)⟩
 rcases hr with rfl | ⟨k, hk, rfl⟩
 ·exact hne
 ·intro e; injection e with e; omega
theorem SlN.below {w w' : World} {row : Option Nat} {u : Value} {ls : List (List UInt8)} (h : SlN w row u ls) (hb : Below w.heap.size w w') : SlN w' row u ls := by
 obtain ⟨A, c, rfl, h1, h2, h3, h4⟩ := h
 refine ⟨A, c, rfl, h1, h2, h3, fun h0 => ?_⟩
 obtain ⟨g, o, rfl, hgl, hne, hc⟩ := h4 h0
 exact ⟨g, o, rfl, Nat.lt_of_lt_of_le hgl hb.size, hne, fun j t ht => (hb.cell (p := ⟨g, o + j, none⟩) hgl).trans (hc j t ht)⟩
theorem SlN.of_own {w : World} {base : Nat} {row : Option Nat} {v : Value} {ls : List (List UInt8)} (h : w.ownsRow base 9 1 v ls.length (ls.map strV)) (hr : ∀ k, row = some k → k < base) : SlN w row v ls := by
 obtain ⟨A, c, e1, h0, _, hA, h2⟩ := Slc.of_own h
 rcases h.2 with ⟨rfl, h0⟩ | ⟨g, cap, cur, rfl, hb, _, hn, _⟩
 ·exact ⟨none, 0, by rw [h0], by omega, by simp [h0], fun _ => rfl, fun h => by omega⟩
 ·refine ⟨_, cap, rfl, hn, h0, fun h => (by cases h), fun h3 => ?_⟩
  injection e1 with e1 e2 e3
  subst e1
  obtain ⟨g', o', e2, hg, hc⟩ := h2 h3
  injection e2 with e2
  injection e2 with e3 e4
  subst e3 e4
  refine ⟨g, 0, rfl, hg, fun e => ?_, fun j t ht => hc j _ (by rw [List.getElem?_map, ht]; rfl)⟩
  have := hr g e
  omega
theorem linesGo_short : ∀ (l cur : List UInt8) (x : List UInt8), x ∈ zDl cur l → x.length ≤ cur.length + l.length := by
 intro l
 induction l with
 | nil =>
  intro cur x h
  simp only [zDl, flush] at h
  split at h
  ·cases h
  ·simp at h; subst h; simp
 | cons c r ih =>
  intro cur x h
  simp only [zDl] at h
  split at h
  ·rcases List.mem_cons.1 h with h | h
   ·subst h; simp
   ·have := ih [] x h; simp at this ⊢; omega
  ·have := ih _ x h; simp at this ⊢; omega
theorem lines_short {t : List UInt8} (h : zBo t = 0) : (zFw t).length ≤ 65537 ∧ ∀ l ∈ zFw t, l.length ≤ 65536 := by
 have hl : t.length ≤ 65536 := by
  unfold zBo at h
  split at h
  ·cases h
  ·omega
 refine ⟨by have := linesGo_len t []; unfold zFw; omega, fun l hm => ?_⟩
 have := linesGo_short t [] l hm
 simp at this; omega
def LnV (w : World) (B : Nat) (v : Value) (ls : List (List (List UInt8))) : Prop :=
 ∃ A c, v = .slice A ls.length c ∧ ls.length ≤ c ∧ ls.length ≤ 1000000000 ∧ ∀ (j : Nat) fs, ls[j]? = some fs → ∃ g o u, A = some ⟨g, o, none⟩ ∧ g < B ∧ w.cell? ⟨g, o + j, none⟩ = some u ∧ FsV w B u fs
theorem LnV.below {w w' : World} {B : Nat} {v : Value} {ls : List (List (List UInt8))} (h : LnV w B v ls) (hb : Below B w w') : LnV w' B v ls := by
 obtain ⟨A, c, e, h1, h2, h3⟩ := h
 refine ⟨A, c, e, h1, h2, fun j fs hj => ?_⟩
 obtain ⟨g, o, u, e, hg, hc, hf⟩ := h3 j fs hj
 exact ⟨g, o, u, e, hg, (hb.cell (p := ⟨g, o + j, none⟩) hg).trans hc, hf.below hb⟩
theorem SlN.fsv {w : World} {row : Option Nat} {u : Value} {fs : List (List UInt8)} (h : SlN w row u fs) : FsV w w.heap.size u fs := by
 obtain ⟨A, c, rfl, h1, h2, h3, h4⟩ := h
 refine ⟨A, c, rfl, h1, A, c, rfl, h2, by simp, h3, fun h0 => ?_⟩
 obtain ⟨g, o, rfl, hg, _, hc⟩ := h4 h0
 refine ⟨g, o, rfl, hg, fun j u hu => ?_⟩
 rw [List.getElem?_map] at hu
 cases hq : fs[j]? with
 | none => rw [hq] at hu; cases hu
 | some t => rw [hq] at hu; injection hu with hu; subst hu; exact hc j t hq
def SplitP (l : List UInt8) (w : World) (e : Ending) (w' : World) : Prop :=
 ∃ v, e = .returned (.tuple #[v, .int .i64 (zBo l)]) ∧ Below w.heap.size w w' ∧ (zBo l = 0 → LnV w' w'.heap.size v ((zFw l).map (zDx 33)))
theorem Tryz.infoFs : (Tryz.prog.info? 50).map (fun i => (i.zero, i.size, i.bytes)) = some (some (.slice none 0 0), 1, 24) := by kernel_rfl
theorem split_any (s : ByteArray) (w : World) : Calls Tryz.prog 14 #[.string s] w (SplitP (bytes s) w) := by
 obtain ⟨i0, hi0, hz0, hz1, hz2⟩ := info_parts Tryz.infoFs
 have Hi0 := hid hi0
 have Hz0 := hid hz0
 have Hz1 := hid hz1
 have Hz2 := hid hz2
 clear hi0 hz0 hz1 hz2
 go_enter Tryz.func14, Tryz.ntmps14
 go_wp2_with fail
 refine (lines_any s w).mono ?_
 rintro e w1 ⟨v1, rfl, ho1, hb1⟩
 generalize bytes s = l at *
 cases he : (zBo l != 0) with
 | true =>
  have hne : ¬ zBo l = 0 := by simpa using he
  have HNE := hid hne
  have HB := hid hb1
  clear hne ho1
  go_wp2_with fail
  go_ret2
  exact ⟨_, rfl, HB.out, fun h => absurd h HNE.out⟩
 | false =>
  have h0 : zBo l = 0 := by simpa using he
  have hlr : zHy l = zFw l := by unfold zHy; rw [if_pos h0]
  have hsh := lines_short h0
  rw [hlr] at ho1
  have HSH := hid hsh.2
  have hn := hsh.1
  have H0 := hid h0
  obtain ⟨L, hL⟩ : ∃ L, L = zFw l := ⟨_, rfl⟩
  rw [← hL] at ho1 hn HSH
  have HL := hid hL
  have HS := hid (Slc.of_own ho1)
  obtain ⟨A1, c1, e1⟩ := slc_form (Slc.of_own ho1)
  subst e1
  have HB := hid hb1
  clear hlr hsh h0 ho1 hL hb1
  go_wp2_with (first | (at_make; refine wpList_make_full _ rfl _ _ 56 rfl w1.heap.size 50 i0 _ 1 Tryz.underlying56 Hi0.out Hz0.out Hz1.out .i64 .i64 _ _ L.length rfl rfl rfl rfl (by rw [Hz2.out]; omega) (by unfold maxLen; omega) (Nat.le_refl _) ?_; intro w2 hown hgr))
  have HO := hid hown
  have hxl := hown.1
  have HBW := hid ((Below.refl w1.heap.size w1).grown hgr (Nat.le_refl _) (fun k h => by cases h))
  clear hown hgr
  generalize (madeCells _ (L.length * 1)).toList = xs0 at HO hxl
  go_loopg [22] L.length (fun gh ix wr => ∃ (j : Nat) (us : List Value), j + gh = L.length ∧ ix = .int .i64 j ∧ us.length = L.length * 1 ∧ Hid (wr.ownsRow w1.heap.size 50 1 (.slice (some ⟨w1.heap.size, 0, none⟩) L.length L.length) L.length us) ∧ Hid (∀ (i : Nat) u t, i < j → us[i]? = some u → L[i]? = some t → SlN wr (some w1.heap.size) u (zDx 33 t)) ∧ Hid (Below w1.heap.size w1 wr))
  case atStart => exact ⟨0, xs0, by omega, rfl, hxl, HO, hid (fun i u t h => by omega), HBW⟩
  case round =>
   clear HO hxl HBW
   obtain ⟨j, us, hj, rfl, hul, HO, HU, HBr⟩ := hrel
   by_cases hjl : j < L.length
   ·obtain ⟨g, o, eA, hg, cx⟩ := slc_at (HS.out.below HBr.out) rfl hjl
    have HT := hid (List.getElem?_eq_getElem hjl)
    have hx := HSH.out _ (List.getElem_mem hjl)
    generalize L[j] = x at cx HT hx
    have HF := hid (fun W => fields_any (str x) 33 W (by rw [zEj]; omega))
    unfold strV at cx
    subst eA
    have HUL := hid hul
    have hz4 := HBr.out.size
    have hlt4 : w1.heap.size < wr.heap.size := (HO.out.lt _ rfl).2
    clear hul hx
    go_wp2_with fail
    refine (HF.out _).mono ?_
    rintro e w4 ⟨v4, rfl, ho4, hb5⟩
    rw [zBe] at ho4
    have HO4 := hid ho4
    have HB5 := hid hb5
    have hown5 := own_below HO.out hb5
    obtain ⟨y, hy⟩ : ∃ y, us[j]? = some y := ⟨us[j]'(by rw [HUL.out]; omega), List.getElem?_eq_getElem _⟩
    have k1 : w4.cell? ⟨w1.heap.size, j, none⟩ = some y := (hown5.cellAt j (by omega)).trans hy
    have k2 : w4.frozen? ⟨w1.heap.size, j, none⟩ = false := hown5.frozenAt j
    have HO6 := hid (hown5.stored j v4)
    obtain ⟨A4, c4, e4⟩ := slc_form (Slc.of_own ho4)
    subst e4
    clear hown5 hy ho4 hb5
    go_wp2_with fail
    go_roundg (L.length - (j + 1))
    case measure => omega
    case rel =>
     have hn4 : SlN w4 (some w1.heap.size) (.slice A4 (zDx 33 x).length c4) (zDx 33 x) := SlN.of_own HO4.out (fun k e => by have := Option.some.inj e; omega)
     have hs4 := zBj w4 w1.heap.size j (.slice A4 (zDx 33 x).length c4)
     exact ⟨j + 1, us.set j (.slice A4 (zDx 33 x).length c4), by omega, by go_num, by rw [List.length_set]; exact HUL.out, hid HO6.out.1, hid (fun i u t hi hu ht => by
      rcases Nat.lt_or_ge i j with h | h
      ·rw [List.getElem?_set_ne (by omega)] at hu
       exact ((HU.out i u t h hu ht).below HB5.out).grown hs4 (.inl rfl)
      ·have e : i = j := by omega
       subst e
       rw [List.getElem?_set_self (by rw [HUL.out]; omega)] at hu
       injection hu with hu
       subst hu
       rw [HT.out] at ht
       injection ht with ht
       subst ht
       exact hn4.grown hs4 (.inl rfl)), hid ((HBr.out.trans (HB5.out.mono hz4)).setCell (Nat.le_refl _) _)⟩
   ·have hjz : ¬ ((j : Int) < (L.length : Int)) := by omega
    have hje : j = L.length := by omega
    have HF : Hid (LnV wr wr.heap.size (.slice (some ⟨w1.heap.size, 0, none⟩) L.length L.length) (L.map (zDx 33))) := hid (by
     refine ⟨some ⟨w1.heap.size, 0, none⟩, L.length, by rw [List.length_map], by rw [List.length_map]; exact Nat.le_refl _, by rw [List.length_map]; omega, fun i fs hi => ?_⟩
     rw [List.getElem?_map] at hi
     cases hq : L[i]? with
     | none => rw [hq] at hi; cases hi
     | some t =>
      rw [hq] at hi
      injection hi with hi
      subst hi
      have hil : i < L.length := (List.getElem?_eq_some_iff.1 hq).1
      have hiu : i < us.length := by rw [hul]; omega
      refine ⟨w1.heap.size, 0, us[i], rfl, (HO.out.lt _ rfl).2, ?_, (HU.out i us[i] t (by omega) (List.getElem?_eq_getElem hiu) hq).fsv⟩
      have := (HO.out.cellAt i (by omega)).trans (List.getElem?_eq_getElem hiu)
      simpa using this)
    clear hje hul HO HU
    go_wp2_with fail
    go_ret2
    exact ⟨.slice (some ⟨w1.heap.size, 0, none⟩) L.length L.length, by rw [H0.out]; rfl, HB.out.trans (HBr.out.mono HB.out.size), fun _ => by rw [← HL.out]; exact HF.out⟩
def zDc (skip : Int) : List (List (List UInt8)) → Nat → Al → Al × Option Nat
 | [], _, a => (a, none)
 | fs :: r, k, a => if (k : Int) = skip ∨ fs = [] then zDc skip r (k + 1) a else if (lineS fs a).2 then zDc skip r (k + 1) (lineS fs a).1 else (a, some (k + 1))
theorem linesK_none : ∀ (ls : List (List (List UInt8))) (k : Nat) (a : Al), zDc (-1) ls k a = linesS ls k a
 | [], _, _ => rfl
 | [] :: r, k, a => by
  unfold zDc linesS
  rw [if_pos (.inr rfl), linesK_none r]
 | (f :: fs) :: r, k, a => by
  have h : ¬ ((k : Int) = -1 ∨ f :: fs = []) := fun h => h.elim (fun h => by omega) (fun h => by cases h)
  unfold zDc
  rw [if_neg h]
  show _ = (if (lineS (f :: fs) a).2 then linesS r (k + 1) (lineS (f :: fs) a).1 else (a, some (k + 1)))
  rw [linesK_none r]
theorem linesK_at {skip : Int} {ls : List (List (List UInt8))} {j : Nat} (hj : j < ls.length) (a : Al) :
  zDc skip (ls.drop j) j a = if (j : Int) = skip ∨ ls[j] = [] then zDc skip (ls.drop (j + 1)) (j + 1) a else if (lineS ls[j] a).2 then zDc skip (ls.drop (j + 1)) (j + 1) (lineS ls[j] a).1 else (a, some (j + 1)) := by
 rw [List.drop_eq_getElem_cons hj]
 rfl
def rt0 : Rt := alRt Al.zero
theorem rt0_C : rt0.C = rtE := rfl
theorem zJr : rtE.all (·.oneCell') = true := rt0_C ▸ rt0.one rfl rfl rfl rfl rfl rfl rfl rfl rfl rfl rfl rfl rfl rfl
def ReadR (E : Rt → Int) (skip : Int) (ls : List (List (List UInt8))) (B : Nat) (e : Ending) (w' : World) : Prop :=
 match zDc skip ls 0 Al.zero with
 | (_, some n) => e = .returned (.tuple #[.agg rtE, .int .i64 (n : Int), .int .i64 2])
 | (a, none) => ∃ r : Rt, r.plain = alRt a ∧ (∀ (ks : List Nat) w'', (∀ k ∈ ks, k < B) → Fr ks w' w'' → r.at w'' w''.heap.size) ∧ (E r = 0 → e = .returned (.tuple #[.agg r.C, .int .i64 (ls.length : Int), .int .i64 0])) ∧ (E r ≠ 0 → e = .returned (.tuple #[.agg rtE, .int .i64 (ls.length : Int), .int .i64 (E r)]))
def ReadP (E : Rt → Int) (skip : Int) (ls : List (List (List UInt8))) (w : World) (e : Ending) (w' : World) : Prop := Below w.heap.size w w' ∧ ReadR E skip ls w.heap.size e w'
theorem zDb {P : Program} {fn : Func} {tmps : Array Value} {w : World} {k j i : Nat} {T : TypeId} {g : Addr} {v u t : Value} (hf : fn.results = #[.cell k T, .tmp j, .tmp i]) (hk : tmps.getD k undef = .pointer (some g))
  (hj : tmps.getD j undef = u) (hi : tmps.getD i undef = t) (hl : (loadVar T g).run P w = .ok v w) : (results fn tmps).run P w = .ok (.tuple #[v, u, t]) w := by
 rw [Array.getD_eq_getD_getElem?] at hk hj hi
 unfold results
 simp [hf, hk, hj, hi, asAddr, hl]
theorem LnV.at {w : World} {B : Nat} {v : Value} {ls : List (List (List UInt8))} (h : LnV w B v ls) {j : Nat} (hj : j < ls.length) : ∃ g o c u, v = .slice (some ⟨g, o, none⟩) ls.length c ∧ w.cell? ⟨g, o + j, none⟩ = some u ∧ FsV w B u ls[j] := by
 obtain ⟨A, c, rfl, h1, h2, h3⟩ := h
 obtain ⟨g, o, u, rfl, hg, hc, hf⟩ := h3 j ls[j] (List.getElem?_eq_getElem hj)
 exact ⟨g, o, c, u, rfl, hc, hf⟩
def Av.zero : Av := ⟨.slice none 0 0, .slice none 0 0, .slice none 0 0, .slice none 0 0, .slice none 0 0, .slice none 0 0, .slice none 0 0, .slice none 0 0, .slice none 0 0, .slice none 0 0, .slice none 0 0, .slice none 0 0, .slice none 0 0, .slice none 0 0, .pointer none, .pointer none, [], [], []⟩
theorem RZ.zero {w w' : World} (hh : HasC 88 w.heap.size (AlC Al.zero Av.zero) w') (hB : Below w.heap.size w w') : RZ w.heap.size w.heap.size w Al.zero w' := by
 have hr : ∀ r ∈ AlR Al.zero Av.zero, r.own w' w.heap.size ∧ r.v.ownBlock = none := by
  intro r hr
  simp only [AlR, rowsP, rowsM, rowsA, zAq, Al.zero, Av.zero, List.flatMap_nil, List.mem_cons, List.mem_append, List.not_mem_nil, or_false] at hr
  rcases hr with rfl | rfl | rfl | rfl | rfl | rfl | rfl | rfl | rfl | rfl | rfl | (rfl | rfl) | rfl
  ·exact ⟨OwnE.nil (cells := If.C), rfl⟩
  ·exact ⟨OwnE.nil (cells := Tr.C), rfl⟩
  ·exact ⟨OwnE.nil (cells := Sr.C), rfl⟩
  ·exact ⟨OwnE.nil (cells := AR.C), rfl⟩
  ·exact ⟨OwnE.nil (cells := Rd.C), rfl⟩
  ·exact ⟨OwnE.nil (cells := Rd.C), rfl⟩
  ·exact ⟨OwnE.nil (cells := Nb.C), rfl⟩
  ·exact ⟨OwnE.nil (cells := Pf.C), rfl⟩
  ·exact ⟨OwnE.nil (cells := Ag.C), rfl⟩
  ·exact ⟨OwnE.nil (cells := Cd.C), rfl⟩
  ·exact ⟨OwnE.nil (cells := Rd.C), rfl⟩
  ·exact ⟨OwnE.nil (cells := Lm.C (α := PRule)), rfl⟩
  ·exact ⟨OwnE.nil (cells := Lm.C (α := Cl)), rfl⟩
  ·exact ⟨OwnE.nil (cells := Lm.C (α := Ru)), rfl⟩
 have hbl : blks (AlR Al.zero Av.zero) = [] := by
  unfold blks
  rw [List.filterMap_eq_nil_iff]
  exact fun r h => (hr r h).2
 refine ⟨Av.zero, ⟨hh, ⟨fun r h => (hr r h).1, ?_⟩, hB, by rw [hbl]; exact List.not_mem_nil, Nat.le_refl _, Nat.le_refl _⟩, ⟨rfl, rfl, rfl⟩, fun h => absurd (show (0 : Int) = 1 from h) (by decide), fun h => absurd (show (0 : Int) = 2 from h) (by decide)⟩
 show (blks (AlR Al.zero Av.zero)).Nodup
 rw [hbl]
 exact List.nodup_nil
theorem alRt_fit {k : Nat} {a : Al} (h : AlOk k a) {r : Rt} (hp : r.plain = alRt a) : r.fit := by
 have hL : ∀ x ∈ r.lists, x.fit := fun x hx => by
  have h1 : (⟨x.name, .slice none 0 0, x.rules⟩ : PList) ∈ r.plain.lists := List.mem_map.2 ⟨x, hx, rfl⟩
  rw [hp] at h1
  obtain ⟨l, hl, e⟩ := List.mem_map.1 h1
  injection e with _ _ e
  have h2 := (h.lists.2 l hl).items.2
  rw [e] at h2
  exact h2
 have hM : ∀ x ∈ r.maps, x.fit := fun _ _ => trivial
 have hA : ∀ x ∈ r.acls, x.fit := fun x hx => by
  have h1 : (⟨x.name, .slice none 0 0, x.rules⟩ : AList) ∈ r.plain.acls := List.mem_map.2 ⟨x, hx, rfl⟩
  rw [hp] at h1
  obtain ⟨l, hl, e⟩ := List.mem_map.1 h1
  injection e with _ _ e
  have h2 := (h.acls.2 l hl).items.2
  rw [e] at h2
  exact h2
 have e : ∀ {α : Type} (f : Rt → α), f r.plain = f (alRt a) := fun f => by rw [hp]
 refine ⟨?_, hL, hM, hA, ?_, ?_, ?_, ?_, ?_, ?_, ?_, ?_, ?_, ?_⟩
 ·rw [show r.ifs = a.ifs from e Rt.ifs]; exact h.ifs.2
 ·rw [show r.nat = a.nat from e Rt.nat]; exact h.nat.2
 ·rw [show r.stat = a.stat from e Rt.stat]; exact h.stat.2
 ·rw [show r.ranges = a.ranges from e Rt.ranges]; exact h.ranges.2
 ·rw [show r.lsRed = a.lsRed from e Rt.lsRed]; exact h.lsRed.2
 ·rw [show r.dvRed = a.dvRed from e Rt.dvRed]; exact h.dvRed.2
 ·rw [show r.nb = a.nb from e Rt.nb]; exact h.nb.2
 ·rw [show r.net = a.net from e Rt.net]; exact h.net.2
 ·rw [show r.ag = a.ag from e Rt.ag]; exact h.ag.2
 ·rw [show r.cd = a.cd from e Rt.cd]; exact h.cd.2
 ·rw [show r.pvRed = a.pvRed from e Rt.pvRed]; exact h.pvRed.2
theorem read_gen (E : Rt → Int) (CR : ∀ (r : Rt) (w : World) (B : Nat), r.at w B → B ≤ w.heap.size → r.fit → Calls Tryz.prog 36 #[.agg r.C] w fun e w' => e = .returned (.int .i64 (E r)) ∧ Below w.heap.size w w')
  (v : Value) (ls : List (List (List UInt8))) (skip : Int) (w : World) (h : LnV w w.heap.size v ls) (hn : ls.length ≤ 100000) (hs : ∀ fs ∈ ls, ∀ f ∈ fs, f.length ≤ 1000000000) (he : EnvA w.heap.size w) :
  Calls Tryz.prog 15 #[v, .int .i64 skip] w (ReadP E skip ls w) := by
 obtain ⟨A0, c0, rfl⟩ : ∃ A0 c0, v = .slice A0 ls.length c0 := by obtain ⟨A0, c0, e0, -⟩ := h; exact ⟨A0, c0, e0⟩
 have HLN := hid h
 have HN := hid hn
 have HS := hid hs
 have HE := hid he
 have HCR := hid CR
 clear h hn hs he CR
 go_enter Tryz.func15, Tryz.ntmps15
 go_upto_region 1 with (fail)
 have HRES := hid (HasC.new w 41 rtE)
 have HB1 := hid ((Below.refl w.heap.size w).alloc (Nat.le_refl _) (.cells rtE 41))
 change Code.wp _ _ _ _ (w.alloc (.cells rtE 41))
 generalize w.alloc (.cells rtE 41) = wA at HRES HB1 ⊢
 go_upto_region 2 with (fail)
 have HG : Hid (HasC 88 wA.heap.size (AlC Al.zero Av.zero) (wA.alloc (.cells (AlC Al.zero Av.zero) 88))) := hid (HasC.new _ _ _)
 have HZ := hid (RZ.zero HG.out ((Below.refl _ wA).alloc (Nat.le_refl _) _))
 have hlt := zBp HRES.out
 have HEA : Hid (EnvA wA.heap.size wA) := hid (by have h := HE.out.keep HB1.out; exact ⟨h.1, Nat.lt_of_lt_of_le h.2 HB1.out.size⟩)
 have HLA : Hid (LnV wA wA.heap.size (.slice A0 ls.length c0) ls) := hid (by
  obtain ⟨A, c, e, h1, h2, h3⟩ := HLN.out.below HB1.out
  refine ⟨A, c, e, h1, h2, fun j fs hj => ?_⟩
  obtain ⟨g, o, u, e, hg, hc, A', c', e', h1', h2'⟩ := h3 j fs hj
  exact ⟨g, o, u, e, Nat.lt_of_lt_of_le hg HB1.out.size, hc, A', c', e', h1', h2'.mono HB1.out.size⟩)
 clear HG
 change Code.wp _ _ _ _ (wA.alloc (.cells (AlC Al.zero Av.zero) 88))
 generalize wA.alloc (.cells (AlC Al.zero Av.zero) 88) = w2 at HZ ⊢
 go_wp2_with fail
 go_loopg [16] ls.length (fun gh ix wr => ∃ (j : Nat) (a : Al), j + gh = ls.length ∧ ix = .int .i64 j ∧ Hid (RZ wA.heap.size wA.heap.size wA a wr) ∧ Hid (AlOk j a) ∧ Hid (zDc skip (ls.drop j) j a = zDc skip ls 0 Al.zero))
 case atStart => exact ⟨0, Al.zero, by omega, rfl, HZ, hid (AlOk.zero 0), hid rfl⟩
 case round =>
  clear HZ
  obtain ⟨j, a, hj, rfl, HZ, HK, HL⟩ := hrel
  have hmx := HN.out
  by_cases hjl : j < ls.length
  case pos =>
   obtain ⟨gf, of, cf, u, e', cu, hfu⟩ := HLA.out.at hjl
   injection e' with e1 e2 e3
   subst e1 e3
   have cu2 : wr.cell? ⟨gf, of + j, none⟩ = .some u := by
    obtain ⟨A, c, e, -, -, h3⟩ := HLA.out
    obtain ⟨g', o', u', e'', hg', -⟩ := h3 j ls[j] (List.getElem?_eq_getElem hjl)
    injection e with e1 _ _
    rw [e''] at e1
    injection e1 with e1
    injection e1 with e1 _ _
    subst e1
    exact (HZ.out.below.cell (p := ⟨gf, of + j, none⟩) hg').trans cu
   have HAT := hid (linesK_at (skip := skip) hjl a)
   have HFU := hid (hfu.below HZ.out.below)
   have HSF := hid (HS.out _ (List.getElem_mem hjl))
   obtain ⟨Au, cc, eu, -⟩ := hfu
   have hjz : (j : Int) < (ls.length : Int) := by omega
   generalize ls[j] = fs at HAT HFU HSF eu
   subst eu
   clear e2 cu
   by_cases hsk : (j : Int) = skip
   ·have ds : ((j : Int) == skip) = true := by simpa using hsk
    have E1 : Hid (zDc skip (ls.drop (j + 1)) (j + 1) a = zDc skip ls 0 Al.zero) := hid (by rw [← HL.out, HAT.out, if_pos (.inl hsk)])
    clear hsk
    go_wp2_with fail
    go_roundg (ls.length - (j + 1))
    case measure => omega
    case rel => exact ⟨j + 1, a, by omega, by go_num, HZ, hid (HK.out.up (Nat.le_succ _)), E1⟩
   have ds : ((j : Int) == skip) = false := by simpa using hsk
   obtain ⟨nf, hnf⟩ : ∃ nf, nf = fs.length := ⟨_, rfl⟩
   have HNF := hid hnf
   rw [← hnf] at cu2
   clear hnf
   rcases Nat.eq_zero_or_pos nf with h0 | h0
   ·subst h0
    have E1 : Hid (zDc skip (ls.drop (j + 1)) (j + 1) a = zDc skip ls 0 Al.zero) := hid (by rw [← HL.out, HAT.out, if_pos (.inr (List.eq_nil_of_length_eq_zero HNF.out.symm))])
    clear hsk
    go_wp2_with fail
    go_roundg (ls.length - (j + 1))
    case measure => omega
    case rel => exact ⟨j + 1, a, by omega, by go_num, HZ, hid (HK.out.up (Nat.le_succ _)), E1⟩
   have hne : fs ≠ [] := by intro e; have := HNF.out; rw [e] at this; simp at this; omega
   have dn : ((nf : Int) == 0) = false := by simp; omega
   have HLine := hid (line_any wA.heap.size wA.heap.size wA a (.slice Au fs.length cc) fs wr HZ.out (HK.out.up (by omega)) HEA.out HFU.out hne HSF.out)
   rw [← HNF.out] at HLine
   have HC : Hid (zDc skip ls 0 Al.zero = if (lineS fs a).2 then zDc skip (ls.drop (j + 1)) (j + 1) (lineS fs a).1 else (a, some (j + 1))) := hid (by rw [← HL.out, HAT.out, if_neg (fun h => h.elim hsk hne)])
   clear hsk hne h0
   go_wp2_with fail
   refine HLine.out.mono ?_
   rintro e w5 ⟨rfl, hz5⟩
   have HZ5 := hid hz5
   clear hz5
   cases hok : (lineS fs a).2 with
   | true =>
    have E1 : Hid (zDc skip (ls.drop (j + 1)) (j + 1) (lineS fs a).1 = zDc skip ls 0 Al.zero) := hid (by rw [HC.out, if_pos hok])
    clear hok
    go_wp2_with fail
    go_roundg (ls.length - (j + 1))
    case measure => omega
    case rel => exact ⟨j + 1, (lineS fs a).1, by omega, by go_num, HZ5, hid (lineS_ok HK.out fs), E1⟩
   | false =>
    have E1 : Hid (zDc skip ls 0 Al.zero = (a, some (j + 1))) := hid (by rw [HC.out, if_neg (by rw [hok]; decide)])
    have HR5 := hid (HRES.out.below HZ5.out.below hlt)
    clear hok
    go_wp2_with (first | (refine zAe rfl 41 _ _ rfl rfl (ds := rtE) rfl HR5.out rfl Tryz.sizeRt zJr ?_; intro wz hz1 hz2))
    refine bodyPost_ret (zDb rfl rfl rfl rfl (hz1.loadR Tryz.rowRt Tryz.sizeRt)) rfl ?_
    have hbz : Below w.heap.size w wz := (HB1.out.trans (HZ5.out.below.mono HB1.out.size)).trans (zAs hz2 (Nat.le_refl _) (Nat.le_trans HB1.out.size HZ5.out.below.size))
    unfold ReadP ReadR
    rw [E1.out]
    exact ⟨hbz, by go_num⟩
  case neg =>
   have hjz : ¬ ((j : Int) < (ls.length : Int)) := by omega
   have EL : Hid (zDc skip ls 0 Al.zero = (a, none)) := hid (by rw [← HL.out, List.drop_of_length_le (by omega)]; rfl)
   have HRT := hid (router_any wA.heap.size wA.heap.size wA a wr HZ.out (HK.out.up (by omega)))
   clear HL hjl
   go_wp2_with fail
   refine HRT.out.mono ?_
   rintro e w3 ⟨r, rfl, hb3, hpl, hat⟩
   have HB3 := hid hb3
   have HPL := hid hpl
   have HAT := hid hat
   have HA3 := hid (hat [] w3 (fun _ h => by cases h) (Fr.refl _ _))
   clear hb3 hpl hat HRT
   go_upto_region 10 with (first | (refine zAe rfl 41 _ _ rfl rfl (ds := r.C) rfl (HasC.new _ _ _) rfl Tryz.sizeRt HA3.out.one ?_; intro w4 hz1 hz2))
   have HB4 := hid (zAn hz2)
   have X4 := hid hz1
   have HA4 := hid (HA3.out.below HB4.out)
   have HCR4 := hid (HCR.out r w4 w3.heap.size HA4.out HB4.out.size (alRt_fit HK.out HPL.out))
   clear hz1 hz2
   go_wp2_with (first | (refine zAa rfl _ _ rfl rfl X4.out.range Tryz.rowRt Tryz.sizeRt ?_))
   refine HCR4.out.mono ?_
   rintro e w5 ⟨rfl, hb5⟩
   have HB5 := hid hb5
   have HBA : Hid (Below wA.heap.size wA w5) := hid (HZ.out.below.trans ((HB3.out.trans ((HB4.out.trans (hb5.mono HB4.out.size)).mono HB3.out.size)).mono HZ.out.below.size))
   have HR5 := hid (HRES.out.below HBA.out hlt)
   have HF5 : Hid (Fr [w.heap.size] w3 w5) := hid (Fr.of_below (HB4.out.trans (hb5.mono HB4.out.size)))
   have X5 := hid (X4.out.keep hb5)
   have HBW : Hid (Below w.heap.size w w5) := hid (HB1.out.trans (HBA.out.mono HB1.out.size))
   clear hb5 HCR4
   cases hE : (E r != 0) with
   | true =>
    have hne : E r ≠ 0 := by simpa using hE
    have HNE := hid hne
    clear hne
    go_wp2_with (first | (refine zAe rfl 41 _ _ rfl rfl (ds := rtE) rfl HR5.out rfl Tryz.sizeRt zJr ?_; intro wz hz1 hz2))
    refine bodyPost_ret (zDb rfl rfl rfl rfl (hz1.loadR Tryz.rowRt Tryz.sizeRt)) rfl ?_
    unfold ReadP ReadR
    rw [EL.out]
    exact ⟨HBW.out.trans (zAs hz2 (Nat.le_refl _) HBW.out.size), r, HPL.out, fun ks wq hk hf => HAT.out (w.heap.size :: ks) wq (fun k hm => (List.mem_cons.1 hm).elim (fun e => e ▸ hlt) (fun hm => Nat.lt_trans (hk k hm) hlt)) (((HF5.out.trans (Fr.ofOne hz2 (by simp))).mono (fun k hm => by simp at hm; subst hm; exact List.mem_cons_self)).trans (hf.mono (fun k hm => List.mem_cons_of_mem _ hm))), fun h => absurd h HNE.out, fun _ => rfl⟩
   | false =>
    have h0 : E r = 0 := by simpa using hE
    have H0 := hid h0
    clear h0
    go_wp2_with (first | (refine zAa rfl _ _ rfl rfl X5.out.range Tryz.rowRt Tryz.sizeRt ?_) | (refine zAe rfl 41 _ _ rfl rfl (ds := r.C) rfl HR5.out rfl Tryz.sizeRt HA3.out.one ?_; intro wz hz1 hz2))
    refine bodyPost_ret (zDb rfl rfl rfl rfl (hz1.loadR Tryz.rowRt Tryz.sizeRt)) rfl ?_
    unfold ReadP ReadR
    rw [EL.out]
    exact ⟨HBW.out.trans (zAs hz2 (Nat.le_refl _) HBW.out.size), r, HPL.out, fun ks wq hk hf => HAT.out (w.heap.size :: ks) wq (fun k hm => (List.mem_cons.1 hm).elim (fun e => e ▸ hlt) (fun hm => Nat.lt_trans (hk k hm) hlt)) (((HF5.out.trans (Fr.ofOne hz2 (by simp))).mono (fun k hm => by simp at hm; subst hm; exact List.mem_cons_self)).trans (hf.mono (fun k hm => List.mem_cons_of_mem _ hm))), fun _ => rfl, fun h => absurd H0.out h⟩
theorem fieldsGo_short (cm : Int) : ∀ (l : List UInt8) (o : Option (List UInt8)), ∀ x ∈ zAz cm o l, x.length ≤ (o.getD []).length + l.length := by
 intro l
 induction l with
 | nil =>
  intro o x h
  cases o with
  | none => simp [zAz] at h
  | some y => simp [zAz] at h; subst h; simp
 | cons c r ih =>
  intro o x h
  cases o with
  | none =>
   unfold zAz at h
   split at h
   ·have := ih none x h; simp at this ⊢; omega
   ·split at h
    ·simp at h
    ·have := ih _ x h; simp at this ⊢; omega
  | some y =>
   unfold zAz at h
   split at h
   ·rcases List.mem_cons.1 h with h | h
    ·subst h; simp
    ·have := ih none x h; simp at this ⊢; omega
   ·have := ih _ x h; simp at this ⊢; omega
theorem fieldsOf_short (cm : Int) (l : List UInt8) : ∀ x ∈ zDx cm l, x.length ≤ l.length := fun x h => by
 have := fieldsGo_short cm l none x h
 simpa using this
def zIe (l : List UInt8) : List (List (List UInt8)) := (zFw l).map (zDx 33)
def ParseP (E : Rt → Int) (l : List UInt8) (w : World) (e : Ending) (w' : World) : Prop :=
 Below w.heap.size w w' ∧ (zBo l ≠ 0 → e = .returned (.tuple #[.agg rtE, .int .i64 0, .int .i64 (zBo l)])) ∧ (zBo l = 0 → ReadR E (-1) (zIe l) w.heap.size e w')
theorem parse_gen (E : Rt → Int) (CR : ∀ (r : Rt) (w : World) (B : Nat), r.at w B → B ≤ w.heap.size → r.fit → Calls Tryz.prog 36 #[.agg r.C] w fun e w' => e = .returned (.int .i64 (E r)) ∧ Below w.heap.size w w')
  (s : ByteArray) (w : World) (he : EnvA w.heap.size w) : Calls Tryz.prog 7 #[.string s] w (ParseP E (bytes s) w) := by
 have HE := hid he
 have HCR := hid CR
 clear he CR
 go_enter Tryz.func7, Tryz.ntmps7
 go_upto_region 1 with (fail)
 have HRES := hid (HasC.new w 41 rtE)
 have HB1 := hid ((Below.refl w.heap.size w).alloc (Nat.le_refl _) (.cells rtE 41))
 change Code.wp _ _ _ _ (w.alloc (.cells rtE 41))
 generalize w.alloc (.cells rtE 41) = wA at HRES HB1 ⊢
 have hlt := zBp HRES.out
 go_wp2_with fail
 refine (split_any s wA).mono ?_
 rintro e w1 ⟨v1, rfl, hb1, hln⟩
 generalize bytes s = l at *
 have HB2 := hid hb1
 have HR1 := hid (HRES.out.below hb1 hlt)
 have HBW : Hid (Below w.heap.size w w1) := hid (HB1.out.trans (hb1.mono HB1.out.size))
 clear hb1
 cases hE : (zBo l != 0) with
 | true =>
  have hne : zBo l ≠ 0 := by simpa using hE
  have HNE := hid hne
  clear hne hln
  go_wp2_with (first | (refine zAe rfl 41 _ _ rfl rfl (ds := rtE) rfl HR1.out rfl Tryz.sizeRt zJr ?_; intro wz hz1 hz2))
  refine bodyPost_ret (zDb rfl rfl rfl rfl (hz1.loadR Tryz.rowRt Tryz.sizeRt)) rfl ?_
  exact ⟨HBW.out.trans (zAs hz2 (Nat.le_refl _) HBW.out.size), fun _ => rfl, fun h => absurd h HNE.out⟩
 | false =>
  have h0 : zBo l = 0 := by simpa using hE
  have hl := hln h0
  have hsh := lines_short h0
  have HRD := hid (read_gen E HCR.out v1 (zIe l) (-1) w1 hl (by unfold zIe; rw [List.length_map]; omega) (fun fs hfs f hf => by
   obtain ⟨t, ht, rfl⟩ := List.mem_map.1 hfs
   have h1 := fieldsOf_short 33 t f hf
   have h2 := hsh.2 t ht
   omega) (by have h := HE.out.keep HBW.out; exact ⟨h.1, Nat.lt_of_lt_of_le h.2 HBW.out.size⟩))
  have H0 := hid h0
  have hlt1 : w.heap.size < w1.heap.size := Nat.lt_of_lt_of_le hlt HB2.out.size
  clear h0 hl hsh hln
  go_wp2_with fail
  refine HRD.out.mono ?_
  rintro e w2 ⟨hb2, hr⟩
  have HB3 := hid hb2
  have HR2 := hid (HR1.out.below hb2 hlt1)
  have HBX : Hid (Below w.heap.size w w2) := hid (HBW.out.trans (hb2.mono HBW.out.size))
  clear hb2
  unfold ReadR at hr
  cases hlk : zDc (-1) (zIe l) 0 Al.zero with
  | mk a o =>
  rw [hlk] at hr
  have HLK := hid hlk
  clear hlk
  cases o with
  | some n =>
   obtain rfl : e = _ := hr
   go_wp2_with (first | (refine zAe rfl 41 _ _ rfl rfl (ds := rtE) rfl HR2.out rfl Tryz.sizeRt zJr ?_; intro wz hz1 hz2))
   refine bodyPost_ret (zDb rfl rfl rfl rfl (hz1.loadR Tryz.rowRt Tryz.sizeRt)) rfl ?_
   exact ⟨HBX.out.trans (zAs hz2 (Nat.le_refl _) HBX.out.size), fun h => absurd H0.out h, fun _ => by unfold ReadR; rw [HLK.out]; rfl⟩
  | none =>
   obtain ⟨r, hpl, hat, hr1, hr2⟩ := hr
   have HPL := hid hpl
   have HAT := hid hat
   have HA2 := hid (hat [] w2 (fun _ h => by cases h) (Fr.refl _ _))
   clear hpl hat
   by_cases h0 : E r = 0
   ·have H00 := hid h0
    obtain rfl : e = _ := hr1 h0
    clear h0 hr1 hr2
    go_wp2_with (first | (refine zAe rfl 41 _ _ rfl rfl (ds := r.C) rfl HR2.out rfl Tryz.sizeRt HA2.out.one ?_; intro wz hz1 hz2))
    refine bodyPost_ret (zDb rfl rfl rfl rfl (hz1.loadR Tryz.rowRt Tryz.sizeRt)) rfl ?_
    refine ⟨HBX.out.trans (zAs hz2 (Nat.le_refl _) HBX.out.size), fun h => absurd H0.out h, fun _ => ?_⟩
    unfold ReadR
    rw [HLK.out]
    exact ⟨r, HPL.out, fun ks wq hk hf => HAT.out (w.heap.size :: ks) wq (fun k hm => (List.mem_cons.1 hm).elim (fun e => e ▸ hlt1) (fun hm => Nat.lt_trans (hk k hm) hlt1)) ((Fr.ofOne hz2 (by simp)).trans (hf.mono (fun k hm => List.mem_cons_of_mem _ hm))), fun _ => rfl, fun h => absurd H00.out h⟩
   ·have H00 := hid h0
    obtain rfl : e = _ := hr2 h0
    clear h0 hr1 hr2
    go_wp2_with (first | (refine zAe rfl 41 _ _ rfl rfl (ds := rtE) rfl HR2.out rfl Tryz.sizeRt zJr ?_; intro wz hz1 hz2))
    refine bodyPost_ret (zDb rfl rfl rfl rfl (hz1.loadR Tryz.rowRt Tryz.sizeRt)) rfl ?_
    refine ⟨HBX.out.trans (zAs hz2 (Nat.le_refl _) HBX.out.size), fun h => absurd H0.out h, fun _ => ?_⟩
    unfold ReadR
    rw [HLK.out]
    exact ⟨r, HPL.out, fun ks wq hk hf => HAT.out (w.heap.size :: ks) wq (fun k hm => (List.mem_cons.1 hm).elim (fun e => e ▸ hlt1) (fun hm => Nat.lt_trans (hk k hm) hlt1)) ((Fr.ofOne hz2 (by simp)).trans (hf.mono (fun k hm => List.mem_cons_of_mem _ hm))), fun h => absurd h H00.out, fun _ => rfl⟩
def saneT : List UInt8 := [104, 111, 115, 116, 110, 97, 109, 101, 32, 114, 49, 10, 105, 110, 116, 101, 114, 102, 97, 99, 101, 32, 101, 48, 10, 32, 97, 100, 100, 114, 101, 115, 115, 32, 49, 48, 46, 48, 46, 48, 46, 49, 47, 50, 52, 10, 32, 110, 111, 32, 115, 104, 117, 116, 100, 111, 119, 110, 32, 33, 32, 117, 112, 10, 114, 111, 117, 116, 101, 32, 48, 46, 48, 46, 48, 46, 48, 47, 48, 32, 100, 105, 115, 99, 97, 114, 100, 10]
def saneU : List UInt8 := [104, 111, 115, 116, 110, 97, 109, 101, 32, 114, 49, 10, 97, 100, 100, 114, 101, 115, 115, 32, 49, 48, 46, 48, 46, 48, 46, 49, 47, 50, 52, 10]
def saneA : Al := { Al.zero with name := [114, 49], ifs := [⟨[101, 48], 167772161, 24, 0, false, false, 0, 0, false, [], [], 0⟩], stat := [⟨0, 0, 0, [], true, 1, 0⟩], iface := 0 }
theorem saneT_err : zBo saneT = 0 := by decide
theorem saneU_err : zBo saneU = 0 := by decide
theorem saneT_len : (zIe saneT).length = 5 := by decide
theorem saneT_run : zDc (-1) (zIe saneT) 0 Al.zero = (saneA, none) := by kernel_rfl
theorem saneU_run : (zDc (-1) (zIe saneU) 0 Al.zero).2 = some 2 := by kernel_rfl
theorem sane_gen (E : Rt → Int) (CR : ∀ (r : Rt) (w : World) (B : Nat), r.at w B → B ≤ w.heap.size → r.fit → Calls Tryz.prog 36 #[.agg r.C] w fun e w' => e = .returned (.int .i64 (E r)) ∧ Below w.heap.size w w')
  (h0 : ∀ r : Rt, r.plain = alRt saneA → E r = 0) (w : World) (he : EnvA w.heap.size w) : Calls Tryz.prog 10 #[] w fun e w' => e = .returned (.bool true) ∧ Below w.heap.size w w' := by
 have HP1 : Hid (Calls Tryz.prog 7 #[.string (str saneT)] w (ParseP E saneT w)) := hid (by have := parse_gen E CR (str saneT) w he; rwa [zBe] at this)
 have HP2 : Hid (∀ W, EnvA W.heap.size W → Calls Tryz.prog 7 #[.string (str saneU)] W (ParseP E saneU W)) := hid (fun W hW => by have := parse_gen E CR (str saneU) W hW; rwa [zBe] at this)
 have HE := hid he
 have H0 := hid h0
 clear he CR h0
 go_enter Tryz.func10, Tryz.ntmps10
 go_wp2_with fail
 refine HP1.out.mono ?_
 rintro e w1 ⟨hb1, -, hr⟩
 replace hr := hr saneT_err
 unfold ReadR at hr
 rw [saneT_run, saneT_len] at hr
 obtain ⟨r, hpl, hat, hr1, -⟩ := hr
 obtain rfl : e = _ := hr1 (H0.out r hpl)
 have HPL := hid hpl
 have HAT := hid hat
 have HB1 := hid hb1
 have HA1 := hid (hat [] w1 (fun _ h => by cases h) (Fr.refl _ _))
 clear hpl hat hb1 hr1
 go_upto_region 2 with (refine zAe rfl 41 _ _ rfl rfl (ds := r.C) rfl (HasC.new _ _ _) rfl Tryz.sizeRt HA1.out.one ?_; intro w2 hz1 hz2)
 have HB2 := hid (zAn hz2)
 have X2 := hid hz1
 have HE2 : Hid (EnvA w2.heap.size w2) := hid (by
  have h := HE.out.keep (HB1.out.trans (HB2.out.mono HB1.out.size))
  exact ⟨h.1, Nat.lt_of_lt_of_le h.2 (Nat.le_trans HB1.out.size HB2.out.size)⟩)
 have hlt : w1.heap.size < w2.heap.size := zBp hz1
 clear hz1 hz2
 go_wp2_with fail
 refine (HP2.out w2 HE2.out).mono ?_
 rintro e w3 ⟨hb3, -, hr⟩
 replace hr := hr saneU_err
 unfold ReadR at hr
 obtain ⟨a2, e2⟩ : ∃ a2, zDc (-1) (zIe saneU) 0 Al.zero = (a2, some 2) := ⟨_, Prod.ext rfl saneU_run⟩
 rw [e2] at hr
 obtain rfl : e = _ := hr
 have HB3 := hid hb3
 clear hb3 e2
 go_upto_region 3 with (refine zAe rfl 41 _ _ rfl rfl (ds := rtE) rfl (HasC.new _ _ _) rfl Tryz.sizeRt zJr ?_; intro w4 hz1 hz2)
 have HB4 : Hid (Below w2.heap.size w2 w4) := hid (HB3.out.trans ((zAn hz2).mono HB3.out.size))
 clear hz1 hz2
 have X4 := hid (X2.out.keep HB4.out)
 have HA4 := HAT.out [] w4 (fun _ h => by cases h) (Fr.of_below (HB2.out.trans (HB4.out.mono HB2.out.size)))
 have HBF : Hid (Below w.heap.size w w4) := hid (HB1.out.trans ((HB2.out.trans (HB4.out.mono HB2.out.size)).mono HB1.out.size))
 have hn : r.name = [114, 49] := congrArg Rt.name HPL.out
 have hi : r.ifs = saneA.ifs := congrArg Rt.ifs HPL.out
 have hs : r.stat = saneA.stat := congrArg Rt.stat HPL.out
 have S1 := HA4.hifs
 have S2 := HA4.hstat
 rw [hi] at S1
 rw [hs] at S2
 obtain ⟨gi, oi, ci, ei, -, hgi, Ri⟩ := S1.elem (n := 12) (by decide) (fun _ => rfl) (k := 0) (by decide)
 obtain ⟨As, cs, es, -⟩ := S2
 have k0 : w4.cell? ⟨w1.heap.size, 0, none⟩ = .some (.string (str [114, 49])) := (X4.out.cell 0).trans (by show some (strV r.name) = _; rw [hn]; rfl)
 have k2 : w4.cell? ⟨w1.heap.size, 2, none⟩ = .some (.slice (some ⟨gi, oi, none⟩) 1 ci) := (X4.out.cell 2).trans (by show some r.ifsV = _; rw [ei]; rfl)
 have k7 : w4.cell? ⟨w1.heap.size, 7, none⟩ = .some (.slice As 1 cs) := (X4.out.cell 7).trans (by show some r.statV = _; rw [es]; rfl)
 have kd : w4.cell? ⟨gi, oi + 4, none⟩ = .some (.bool false) := by
  have := Ri 4 _ rfl
  rw [Nat.zero_mul, Nat.add_zero] at this
  exact this
 have kq : ((str [114, 49]).toList == [114, 49]) = true := by rw [zAb]; rfl
 clear S1 Ri ei es HA4 hn hi hs hgi
 go_wp2_with fail
 go_ret
 exact ⟨rfl, HBF.out⟩
def later (n : List UInt8) (a : Al) : Al := { a with block := 0, name := n, nat := [], pvOn := false, ext := 0, int := 0, nb := [], net := [], ag := [], cd := [], pvRed := [] }
end Go.Proofs.YtoceoaiokkbjeaaGreatDoor
