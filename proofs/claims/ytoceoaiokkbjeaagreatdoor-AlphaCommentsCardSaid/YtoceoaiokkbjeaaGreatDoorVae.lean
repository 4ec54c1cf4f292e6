/- The walk of the statement AlphaLater, over any contract of CheckRouter. Condition: Go's own tables lie in memory (EnvA). -/
import Derived.Test.YtoceoaiokkbjeaaGreatDoorVac
import Derived.Test.YtoceoaiokkbjeaaGreatDoorVad
set_option maxRecDepth 8000
set_option maxHeartbeats 8000000
namespace Go.Proofs.YtoceoaiokkbjeaaGreatDoor
open Lib (hid)
open Go.RowKit
theorem zDm (word : List UInt8) : ifWords.contains word = ((word == [97, 100, 100, 114, 101, 115, 115]) || (word == [118, 108, 97, 110]) || (word == [115, 104, 117, 116, 100, 111, 119, 110]) || (word == [108, 115]) || (word == [100, 118]) || (word == [105, 110]) || (word == [111, 117, 116]) || (word == [115, 105, 100, 101])) := by
 simp only [ifWords, List.contains_cons, List.contains_nil, Bool.or_false, Bool.or_assoc]
theorem zGp (word : List UInt8) : clWords.contains word = ((word == [109, 97, 116, 99, 104]) || (word == [115, 101, 116]) || (word == [112, 114, 101, 112, 101, 110, 100])) := by
 simp only [clWords, List.contains_cons, List.contains_nil, Bool.or_false, Bool.or_assoc]
theorem zAw (word : List UInt8) : prWords.contains word = ((word == [100, 105, 115, 116, 97, 110, 99, 101]) || (word == [114, 97, 110, 103, 101]) || (word == [114, 101, 100, 105, 115, 116, 114, 105, 98, 117, 116, 101]) || (word == [102, 105, 108, 116, 101, 114]) || (word == [110, 101, 105, 103, 104, 98, 111, 114]) || (word == [110, 101, 116, 119, 111, 114, 107]) || (word == [97, 103, 103, 114, 101, 103, 97, 116, 101]) || (word == [111, 114, 105, 103, 105, 110, 97, 116, 101])) := by
 simp only [prWords, List.contains_cons, List.contains_nil, Bool.or_false, Bool.or_assoc]
theorem belongs_any (block : Int) (word : List UInt8) (w : World) : Calls Tryz.prog 58 #[.int .i64 block, .string (str word)] w fun e w' => e = .returned (.bool (belB block word)) ∧ w' = w := by
 by_cases b1 : block = 1
 ·subst b1
  have q0 : ((str word).toList == [97, 100, 100, 114, 101, 115, 115]) = (word == [97, 100, 100, 114, 101, 115, 115]) := by rw [zAb]
  cases e0 : (word == [97, 100, 100, 114, 101, 115, 115]) with
  | true =>
   rw [e0] at q0
   have E : Hid (belB 1 word = true) := hid (by show (if (1 : Int) = 1 then ifWords.contains word else _) = _; rw [if_pos rfl]; rw [zDm]; simp only [e0, Bool.true_or])
   go_enter Tryz.func58, Tryz.ntmps58
   go_wp2_with fail
   go_ret
   exact ⟨zAe E.out.symm, rfl⟩
  | false =>
   rw [e0] at q0
   have q1 : ((str word).toList == [118, 108, 97, 110]) = (word == [118, 108, 97, 110]) := by rw [zAb]
   cases e1 : (word == [118, 108, 97, 110]) with
   | true =>
    rw [e1] at q1
    have E : Hid (belB 1 word = true) := hid (by show (if (1 : Int) = 1 then ifWords.contains word else _) = _; rw [if_pos rfl]; rw [zDm]; simp only [e0, e1, Bool.true_or, Bool.or_true])
    go_enter Tryz.func58, Tryz.ntmps58
    go_wp2_with fail
    go_ret
    exact ⟨zAe E.out.symm, rfl⟩
   | false =>
    rw [e1] at q1
    have q2 : ((str word).toList == [115, 104, 117, 116, 100, 111, 119, 110]) = (word == [115, 104, 117, 116, 100, 111, 119, 110]) := by rw [zAb]
    cases e2 : (word == [115, 104, 117, 116, 100, 111, 119, 110]) with
    | true =>
     rw [e2] at q2
     have E : Hid (belB 1 word = true) := hid (by show (if (1 : Int) = 1 then ifWords.contains word else _) = _; rw [if_pos rfl]; rw [zDm]; simp only [e0, e1, e2, Bool.true_or, Bool.or_true])
     go_enter Tryz.func58, Tryz.ntmps58
     go_wp2_with fail
     go_ret
     exact ⟨zAe E.out.symm, rfl⟩
    | false =>
     rw [e2] at q2
     have q3 : ((str word).toList == [108, 115]) = (word == [108, 115]) := by rw [zAb]
     cases e3 : (word == [108, 115]) with
     | true =>
      rw [e3] at q3
      have E : Hid (belB 1 word = true) := hid (by show (if (1 : Int) = 1 then ifWords.contains word else _) = _; rw [if_pos rfl]; rw [zDm]; simp only [e0, e1, e2, e3, Bool.true_or, Bool.or_true])
      go_enter Tryz.func58, Tryz.ntmps58
      go_wp2_with fail
      go_ret
      exact ⟨zAe E.out.symm, rfl⟩
     | false =>
      rw [e3] at q3
      have q4 : ((str word).toList == [100, 118]) = (word == [100, 118]) := by rw [zAb]
      cases e4 : (word == [100, 118]) with
      | true =>
       rw [e4] at q4
       have E : Hid (belB 1 word = true) := hid (by show (if (1 : Int) = 1 then ifWords.contains word else _) = _; rw [if_pos rfl]; rw [zDm]; simp only [e0, e1, e2, e3, e4, Bool.true_or, Bool.or_true])
       go_enter Tryz.func58, Tryz.ntmps58
       go_wp2_with fail
       go_ret
       exact ⟨zAe E.out.symm, rfl⟩
      | false =>
       rw [e4] at q4
       have q5 : ((str word).toList == [105, 110]) = (word == [105, 110]) := by rw [zAb]
       cases e5 : (word == [105, 110]) with
       | true =>
        rw [e5] at q5
        have E : Hid (belB 1 word = true) := hid (by show (if (1 : Int) = 1 then ifWords.contains word else _) = _; rw [if_pos rfl]; rw [zDm]; simp only [e0, e1, e2, e3, e4, e5, Bool.true_or, Bool.or_true])
        go_enter Tryz.func58, Tryz.ntmps58
        go_wp2_with fail
        go_ret
        exact ⟨zAe E.out.symm, rfl⟩
       | false =>
        rw [e5] at q5
        have q6 : ((str word).toList == [111, 117, 116]) = (word == [111, 117, 116]) := by rw [zAb]
        cases e6 : (word == [111, 117, 116]) with
        | true =>
         rw [e6] at q6
         have E : Hid (belB 1 word = true) := hid (by show (if (1 : Int) = 1 then ifWords.contains word else _) = _; rw [if_pos rfl]; rw [zDm]; simp only [e0, e1, e2, e3, e4, e5, e6, Bool.true_or, Bool.or_true])
         go_enter Tryz.func58, Tryz.ntmps58
         go_wp2_with fail
         go_ret
         exact ⟨zAe E.out.symm, rfl⟩
        | false =>
         rw [e6] at q6
         have q7 : ((str word).toList == [115, 105, 100, 101]) = (word == [115, 105, 100, 101]) := by rw [zAb]
         cases e7 : (word == [115, 105, 100, 101]) with
         | true =>
          rw [e7] at q7
          have E : Hid (belB 1 word = true) := hid (by show (if (1 : Int) = 1 then ifWords.contains word else _) = _; rw [if_pos rfl]; rw [zDm]; simp only [e0, e1, e2, e3, e4, e5, e6, e7, Bool.or_true])
          go_enter Tryz.func58, Tryz.ntmps58
          go_wp2_with fail
          go_ret
          exact ⟨zAe E.out.symm, rfl⟩
         | false =>
          rw [e7] at q7
          have E : Hid (belB 1 word = false) := hid (by show (if (1 : Int) = 1 then ifWords.contains word else _) = _; rw [if_pos rfl]; rw [zDm]; simp only [e0, e1, e2, e3, e4, e5, e6, e7, Bool.or_false])
          go_enter Tryz.func58, Tryz.ntmps58
          go_wp2_with fail
          go_ret
          exact ⟨zAe E.out.symm, rfl⟩
 by_cases b2 : block = 2
 ·subst b2
  have q0 : ((str word).toList == [109, 97, 116, 99, 104]) = (word == [109, 97, 116, 99, 104]) := by rw [zAb]
  cases e0 : (word == [109, 97, 116, 99, 104]) with
  | true =>
   rw [e0] at q0
   have E : Hid (belB 2 word = true) := hid (by show clWords.contains word = _; rw [zGp]; simp only [e0, Bool.true_or])
   go_enter Tryz.func58, Tryz.ntmps58
   go_wp2_with fail
   go_ret
   exact ⟨zAe E.out.symm, rfl⟩
  | false =>
   rw [e0] at q0
   have q1 : ((str word).toList == [115, 101, 116]) = (word == [115, 101, 116]) := by rw [zAb]
   cases e1 : (word == [115, 101, 116]) with
   | true =>
    rw [e1] at q1
    have E : Hid (belB 2 word = true) := hid (by show clWords.contains word = _; rw [zGp]; simp only [e0, e1, Bool.true_or, Bool.or_true])
    go_enter Tryz.func58, Tryz.ntmps58
    go_wp2_with fail
    go_ret
    exact ⟨zAe E.out.symm, rfl⟩
   | false =>
    rw [e1] at q1
    have q2 : ((str word).toList == [112, 114, 101, 112, 101, 110, 100]) = (word == [112, 114, 101, 112, 101, 110, 100]) := by rw [zAb]
    cases e2 : (word == [112, 114, 101, 112, 101, 110, 100]) with
    | true =>
     rw [e2] at q2
     have E : Hid (belB 2 word = true) := hid (by show clWords.contains word = _; rw [zGp]; simp only [e0, e1, e2, Bool.or_true])
     go_enter Tryz.func58, Tryz.ntmps58
     go_wp2_with fail
     go_ret
     exact ⟨zAe E.out.symm, rfl⟩
    | false =>
     rw [e2] at q2
     have E : Hid (belB 2 word = false) := hid (by show clWords.contains word = _; rw [zGp]; simp only [e0, e1, e2, Bool.or_false])
     go_enter Tryz.func58, Tryz.ntmps58
     go_wp2_with fail
     go_ret
     exact ⟨zAe E.out.symm, rfl⟩
 by_cases b3 : block = 3
 ·subst b3
  have q0 : ((str word).toList == [100, 105, 115, 116, 97, 110, 99, 101]) = (word == [100, 105, 115, 116, 97, 110, 99, 101]) := by rw [zAb]
  cases e0 : (word == [100, 105, 115, 116, 97, 110, 99, 101]) with
  | true =>
   rw [e0] at q0
   have E : Hid (belB 3 word = true) := hid (by show prWords.contains word = _; rw [zAw]; simp only [e0, Bool.true_or])
   go_enter Tryz.func58, Tryz.ntmps58
   go_wp2_with fail
   go_ret
   exact ⟨zAe E.out.symm, rfl⟩
  | false =>
   rw [e0] at q0
   have q1 : ((str word).toList == [114, 97, 110, 103, 101]) = (word == [114, 97, 110, 103, 101]) := by rw [zAb]
   cases e1 : (word == [114, 97, 110, 103, 101]) with
   | true =>
    rw [e1] at q1
    have E : Hid (belB 3 word = true) := hid (by show prWords.contains word = _; rw [zAw]; simp only [e0, e1, Bool.true_or, Bool.or_true])
    go_enter Tryz.func58, Tryz.ntmps58
    go_wp2_with fail
    go_ret
    exact ⟨zAe E.out.symm, rfl⟩
   | false =>
    rw [e1] at q1
    have q2 : ((str word).toList == [114, 101, 100, 105, 115, 116, 114, 105, 98, 117, 116, 101]) = (word == [114, 101, 100, 105, 115, 116, 114, 105, 98, 117, 116, 101]) := by rw [zAb]
    cases e2 : (word == [114, 101, 100, 105, 115, 116, 114, 105, 98, 117, 116, 101]) with
    | true =>
     rw [e2] at q2
     have E : Hid (belB 3 word = true) := hid (by show prWords.contains word = _; rw [zAw]; simp only [e0, e1, e2, Bool.true_or, Bool.or_true])
     go_enter Tryz.func58, Tryz.ntmps58
     go_wp2_with fail
     go_ret
     exact ⟨zAe E.out.symm, rfl⟩
    | false =>
     rw [e2] at q2
     have q3 : ((str word).toList == [102, 105, 108, 116, 101, 114]) = (word == [102, 105, 108, 116, 101, 114]) := by rw [zAb]
     cases e3 : (word == [102, 105, 108, 116, 101, 114]) with
     | true =>
      rw [e3] at q3
      have E : Hid (belB 3 word = true) := hid (by show prWords.contains word = _; rw [zAw]; simp only [e0, e1, e2, e3, Bool.true_or, Bool.or_true])
      go_enter Tryz.func58, Tryz.ntmps58
      go_wp2_with fail
      go_ret
      exact ⟨zAe E.out.symm, rfl⟩
     | false =>
      rw [e3] at q3
      have q4 : ((str word).toList == [110, 101, 105, 103, 104, 98, 111, 114]) = (word == [110, 101, 105, 103, 104, 98, 111, 114]) := by rw [zAb]
      cases e4 : (word == [110, 101, 105, 103, 104, 98, 111, 114]) with
      | true =>
       rw [e4] at q4
       have E : Hid (belB 3 word = true) := hid (by show prWords.contains word = _; rw [zAw]; simp only [e0, e1, e2, e3, e4, Bool.true_or, Bool.or_true])
       go_enter Tryz.func58, Tryz.ntmps58
       go_wp2_with fail
       go_ret
       exact ⟨zAe E.out.symm, rfl⟩
      | false =>
       rw [e4] at q4
       have q5 : ((str word).toList == [110, 101, 116, 119, 111, 114, 107]) = (word == [110, 101, 116, 119, 111, 114, 107]) := by rw [zAb]
       cases e5 : (word == [110, 101, 116, 119, 111, 114, 107]) with
       | true =>
        rw [e5] at q5
        have E : Hid (belB 3 word = true) := hid (by show prWords.contains word = _; rw [zAw]; simp only [e0, e1, e2, e3, e4, e5, Bool.true_or, Bool.or_true])
        go_enter Tryz.func58, Tryz.ntmps58
        go_wp2_with fail
        go_ret
        exact ⟨zAe E.out.symm, rfl⟩
       | false =>
        rw [e5] at q5
        have q6 : ((str word).toList == [97, 103, 103, 114, 101, 103, 97, 116, 101]) = (word == [97, 103, 103, 114, 101, 103, 97, 116, 101]) := by rw [zAb]
        cases e6 : (word == [97, 103, 103, 114, 101, 103, 97, 116, 101]) with
        | true =>
         rw [e6] at q6
         have E : Hid (belB 3 word = true) := hid (by show prWords.contains word = _; rw [zAw]; simp only [e0, e1, e2, e3, e4, e5, e6, Bool.true_or, Bool.or_true])
         go_enter Tryz.func58, Tryz.ntmps58
         go_wp2_with fail
         go_ret
         exact ⟨zAe E.out.symm, rfl⟩
        | false =>
         rw [e6] at q6
         have q7 : ((str word).toList == [111, 114, 105, 103, 105, 110, 97, 116, 101]) = (word == [111, 114, 105, 103, 105, 110, 97, 116, 101]) := by rw [zAb]
         cases e7 : (word == [111, 114, 105, 103, 105, 110, 97, 116, 101]) with
         | true =>
          rw [e7] at q7
          have E : Hid (belB 3 word = true) := hid (by show prWords.contains word = _; rw [zAw]; simp only [e0, e1, e2, e3, e4, e5, e6, e7, Bool.or_true])
          go_enter Tryz.func58, Tryz.ntmps58
          go_wp2_with fail
          go_ret
          exact ⟨zAe E.out.symm, rfl⟩
         | false =>
          rw [e7] at q7
          have E : Hid (belB 3 word = false) := hid (by show prWords.contains word = _; rw [zAw]; simp only [e0, e1, e2, e3, e4, e5, e6, e7, Bool.or_false])
          go_enter Tryz.func58, Tryz.ntmps58
          go_wp2_with fail
          go_ret
          exact ⟨zAe E.out.symm, rfl⟩
 by_cases b4 : block = 4
 ·subst b4
  have q0 : ((str word).toList == [100, 105, 115, 116, 97, 110, 99, 101]) = (word == [100, 105, 115, 116, 97, 110, 99, 101]) := by rw [zAb]
  cases e0 : (word == [100, 105, 115, 116, 97, 110, 99, 101]) with
  | true =>
   rw [e0] at q0
   have E : Hid (belB 4 word = true) := hid (by show prWords.contains word = _; rw [zAw]; simp only [e0, Bool.true_or])
   go_enter Tryz.func58, Tryz.ntmps58
   go_wp2_with fail
   go_ret
   exact ⟨zAe E.out.symm, rfl⟩
  | false =>
   rw [e0] at q0
   have q1 : ((str word).toList == [114, 97, 110, 103, 101]) = (word == [114, 97, 110, 103, 101]) := by rw [zAb]
   cases e1 : (word == [114, 97, 110, 103, 101]) with
   | true =>
    rw [e1] at q1
    have E : Hid (belB 4 word = true) := hid (by show prWords.contains word = _; rw [zAw]; simp only [e0, e1, Bool.true_or, Bool.or_true])
    go_enter Tryz.func58, Tryz.ntmps58
    go_wp2_with fail
    go_ret
    exact ⟨zAe E.out.symm, rfl⟩
   | false =>
    rw [e1] at q1
    have q2 : ((str word).toList == [114, 101, 100, 105, 115, 116, 114, 105, 98, 117, 116, 101]) = (word == [114, 101, 100, 105, 115, 116, 114, 105, 98, 117, 116, 101]) := by rw [zAb]
    cases e2 : (word == [114, 101, 100, 105, 115, 116, 114, 105, 98, 117, 116, 101]) with
    | true =>
     rw [e2] at q2
     have E : Hid (belB 4 word = true) := hid (by show prWords.contains word = _; rw [zAw]; simp only [e0, e1, e2, Bool.true_or, Bool.or_true])
     go_enter Tryz.func58, Tryz.ntmps58
     go_wp2_with fail
     go_ret
     exact ⟨zAe E.out.symm, rfl⟩
    | false =>
     rw [e2] at q2
     have q3 : ((str word).toList == [102, 105, 108, 116, 101, 114]) = (word == [102, 105, 108, 116, 101, 114]) := by rw [zAb]
     cases e3 : (word == [102, 105, 108, 116, 101, 114]) with
     | true =>
      rw [e3] at q3
      have E : Hid (belB 4 word = true) := hid (by show prWords.contains word = _; rw [zAw]; simp only [e0, e1, e2, e3, Bool.true_or, Bool.or_true])
      go_enter Tryz.func58, Tryz.ntmps58
      go_wp2_with fail
      go_ret
      exact ⟨zAe E.out.symm, rfl⟩
     | false =>
      rw [e3] at q3
      have q4 : ((str word).toList == [110, 101, 105, 103, 104, 98, 111, 114]) = (word == [110, 101, 105, 103, 104, 98, 111, 114]) := by rw [zAb]
      cases e4 : (word == [110, 101, 105, 103, 104, 98, 111, 114]) with
      | true =>
       rw [e4] at q4
       have E : Hid (belB 4 word = true) := hid (by show prWords.contains word = _; rw [zAw]; simp only [e0, e1, e2, e3, e4, Bool.true_or, Bool.or_true])
       go_enter Tryz.func58, Tryz.ntmps58
       go_wp2_with fail
       go_ret
       exact ⟨zAe E.out.symm, rfl⟩
      | false =>
       rw [e4] at q4
       have q5 : ((str word).toList == [110, 101, 116, 119, 111, 114, 107]) = (word == [110, 101, 116, 119, 111, 114, 107]) := by rw [zAb]
       cases e5 : (word == [110, 101, 116, 119, 111, 114, 107]) with
       | true =>
        rw [e5] at q5
        have E : Hid (belB 4 word = true) := hid (by show prWords.contains word = _; rw [zAw]; simp only [e0, e1, e2, e3, e4, e5, Bool.true_or, Bool.or_true])
        go_enter Tryz.func58, Tryz.ntmps58
        go_wp2_with fail
        go_ret
        exact ⟨zAe E.out.symm, rfl⟩
       | false =>
        rw [e5] at q5
        have q6 : ((str word).toList == [97, 103, 103, 114, 101, 103, 97, 116, 101]) = (word == [97, 103, 103, 114, 101, 103, 97, 116, 101]) := by rw [zAb]
        cases e6 : (word == [97, 103, 103, 114, 101, 103, 97, 116, 101]) with
        | true =>
         rw [e6] at q6
         have E : Hid (belB 4 word = true) := hid (by show prWords.contains word = _; rw [zAw]; simp only [e0, e1, e2, e3, e4, e5, e6, Bool.true_or, Bool.or_true])
         go_enter Tryz.func58, Tryz.ntmps58
         go_wp2_with fail
         go_ret
         exact ⟨zAe E.out.symm, rfl⟩
        | false =>
         rw [e6] at q6
         have q7 : ((str word).toList == [111, 114, 105, 103, 105, 110, 97, 116, 101]) = (word == [111, 114, 105, 103, 105, 110, 97, 116, 101]) := by rw [zAb]
         cases e7 : (word == [111, 114, 105, 103, 105, 110, 97, 116, 101]) with
         | true =>
          rw [e7] at q7
          have E : Hid (belB 4 word = true) := hid (by show prWords.contains word = _; rw [zAw]; simp only [e0, e1, e2, e3, e4, e5, e6, e7, Bool.or_true])
          go_enter Tryz.func58, Tryz.ntmps58
          go_wp2_with fail
          go_ret
          exact ⟨zAe E.out.symm, rfl⟩
         | false =>
          rw [e7] at q7
          have E : Hid (belB 4 word = false) := hid (by show prWords.contains word = _; rw [zAw]; simp only [e0, e1, e2, e3, e4, e5, e6, e7, Bool.or_false])
          go_enter Tryz.func58, Tryz.ntmps58
          go_wp2_with fail
          go_ret
          exact ⟨zAe E.out.symm, rfl⟩
 by_cases b5 : block = 5
 ·subst b5
  have q0 : ((str word).toList == [100, 105, 115, 116, 97, 110, 99, 101]) = (word == [100, 105, 115, 116, 97, 110, 99, 101]) := by rw [zAb]
  cases e0 : (word == [100, 105, 115, 116, 97, 110, 99, 101]) with
  | true =>
   rw [e0] at q0
   have E : Hid (belB 5 word = true) := hid (by show prWords.contains word = _; rw [zAw]; simp only [e0, Bool.true_or])
   go_enter Tryz.func58, Tryz.ntmps58
   go_wp2_with fail
   go_ret
   exact ⟨zAe E.out.symm, rfl⟩
  | false =>
   rw [e0] at q0
   have q1 : ((str word).toList == [114, 97, 110, 103, 101]) = (word == [114, 97, 110, 103, 101]) := by rw [zAb]
   cases e1 : (word == [114, 97, 110, 103, 101]) with
   | true =>
    rw [e1] at q1
    have E : Hid (belB 5 word = true) := hid (by show prWords.contains word = _; rw [zAw]; simp only [e0, e1, Bool.true_or, Bool.or_true])
    go_enter Tryz.func58, Tryz.ntmps58
    go_wp2_with fail
    go_ret
    exact ⟨zAe E.out.symm, rfl⟩
   | false =>
    rw [e1] at q1
    have q2 : ((str word).toList == [114, 101, 100, 105, 115, 116, 114, 105, 98, 117, 116, 101]) = (word == [114, 101, 100, 105, 115, 116, 114, 105, 98, 117, 116, 101]) := by rw [zAb]
    cases e2 : (word == [114, 101, 100, 105, 115, 116, 114, 105, 98, 117, 116, 101]) with
    | true =>
     rw [e2] at q2
     have E : Hid (belB 5 word = true) := hid (by show prWords.contains word = _; rw [zAw]; simp only [e0, e1, e2, Bool.true_or, Bool.or_true])
     go_enter Tryz.func58, Tryz.ntmps58
     go_wp2_with fail
     go_ret
     exact ⟨zAe E.out.symm, rfl⟩
    | false =>
     rw [e2] at q2
     have q3 : ((str word).toList == [102, 105, 108, 116, 101, 114]) = (word == [102, 105, 108, 116, 101, 114]) := by rw [zAb]
     cases e3 : (word == [102, 105, 108, 116, 101, 114]) with
     | true =>
      rw [e3] at q3
      have E : Hid (belB 5 word = true) := hid (by show prWords.contains word = _; rw [zAw]; simp only [e0, e1, e2, e3, Bool.true_or, Bool.or_true])
      go_enter Tryz.func58, Tryz.ntmps58
      go_wp2_with fail
      go_ret
      exact ⟨zAe E.out.symm, rfl⟩
     | false =>
      rw [e3] at q3
      have q4 : ((str word).toList == [110, 101, 105, 103, 104, 98, 111, 114]) = (word == [110, 101, 105, 103, 104, 98, 111, 114]) := by rw [zAb]
      cases e4 : (word == [110, 101, 105, 103, 104, 98, 111, 114]) with
      | true =>
       rw [e4] at q4
       have E : Hid (belB 5 word = true) := hid (by show prWords.contains word = _; rw [zAw]; simp only [e0, e1, e2, e3, e4, Bool.true_or, Bool.or_true])
       go_enter Tryz.func58, Tryz.ntmps58
       go_wp2_with fail
       go_ret
       exact ⟨zAe E.out.symm, rfl⟩
      | false =>
       rw [e4] at q4
       have q5 : ((str word).toList == [110, 101, 116, 119, 111, 114, 107]) = (word == [110, 101, 116, 119, 111, 114, 107]) := by rw [zAb]
       cases e5 : (word == [110, 101, 116, 119, 111, 114, 107]) with
       | true =>
        rw [e5] at q5
        have E : Hid (belB 5 word = true) := hid (by show prWords.contains word = _; rw [zAw]; simp only [e0, e1, e2, e3, e4, e5, Bool.true_or, Bool.or_true])
        go_enter Tryz.func58, Tryz.ntmps58
        go_wp2_with fail
        go_ret
        exact ⟨zAe E.out.symm, rfl⟩
       | false =>
        rw [e5] at q5
        have q6 : ((str word).toList == [97, 103, 103, 114, 101, 103, 97, 116, 101]) = (word == [97, 103, 103, 114, 101, 103, 97, 116, 101]) := by rw [zAb]
        cases e6 : (word == [97, 103, 103, 114, 101, 103, 97, 116, 101]) with
        | true =>
         rw [e6] at q6
         have E : Hid (belB 5 word = true) := hid (by show prWords.contains word = _; rw [zAw]; simp only [e0, e1, e2, e3, e4, e5, e6, Bool.true_or, Bool.or_true])
         go_enter Tryz.func58, Tryz.ntmps58
         go_wp2_with fail
         go_ret
         exact ⟨zAe E.out.symm, rfl⟩
        | false =>
         rw [e6] at q6
         have q7 : ((str word).toList == [111, 114, 105, 103, 105, 110, 97, 116, 101]) = (word == [111, 114, 105, 103, 105, 110, 97, 116, 101]) := by rw [zAb]
         cases e7 : (word == [111, 114, 105, 103, 105, 110, 97, 116, 101]) with
         | true =>
          rw [e7] at q7
          have E : Hid (belB 5 word = true) := hid (by show prWords.contains word = _; rw [zAw]; simp only [e0, e1, e2, e3, e4, e5, e6, e7, Bool.or_true])
          go_enter Tryz.func58, Tryz.ntmps58
          go_wp2_with fail
          go_ret
          exact ⟨zAe E.out.symm, rfl⟩
         | false =>
          rw [e7] at q7
          have E : Hid (belB 5 word = false) := hid (by show prWords.contains word = _; rw [zAw]; simp only [e0, e1, e2, e3, e4, e5, e6, e7, Bool.or_false])
          go_enter Tryz.func58, Tryz.ntmps58
          go_wp2_with fail
          go_ret
          exact ⟨zAe E.out.symm, rfl⟩
 have z1 : (block == 1) = false := by simpa using b1
 have z2 : (block == 2) = false := by simpa using b2
 have z3 : (block == 3) = false := by simpa using b3
 have z4 : (block == 4) = false := by simpa using b4
 have z5 : (block == 5) = false := by simpa using b5
 have E : Hid (belB block word = false) := hid (by unfold belB; rw [if_neg b1, if_neg b2, if_neg (fun h => h.elim b3 (fun h => h.elim b4 b5))])
 go_enter Tryz.func58, Tryz.ntmps58
 go_wp2_with fail
 go_ret
 exact ⟨zAe E.out.symm, rfl⟩
theorem inner_any (g b B : Nat) (w0 : World) (a : Al) (word : List UInt8) (no : Bool) (p : Ps) (w : World) (h : RA g b B w0 a p w) (hk : AlOk 1000000 a) (he : EnvA B w0) (hs : p.short) :
  Calls Tryz.prog 59 #[.pointer (some ⟨g, 0, none⟩), .string (str word), .bool no, .pointer (some ⟨b, 0, none⟩)] w (APost g b B w0 (innS word no a p).1 (innS word no a p).2) := by
 have c28 : w.cell? ⟨g, 28, none⟩ = .some (.int .i64 a.block) := by obtain ⟨v, h, -⟩ := h; exact h.cell 28
 by_cases b1 : a.block = 1
 ·obtain ⟨v, h, hl, hI, -⟩ := h
  obtain ⟨gg, cap, hv, hp⟩ := hI b1
  rw [b1] at c28
  have hlt := hk.iface b1
  have HO : OwnE w B 68 12 If.C v.ifs a.ifs := h.own' (by simp [AlR])
  obtain ⟨gg', cap', cur, e, hB, hpt, hput⟩ := HO.part (by decide) (fun _ => rfl) hlt
  rw [hv] at e
  injection e with e1 _ _
  injection e1 with e1
  injection e1 with e1 _ _
  subst e1
  have hget : a.ifs[a.iface] = ifGet a := by unfold ifGet; rw [List.getElem?_eq_getElem hlt]; rfl
  rw [hget] at hpt
  have hown : (rowE 68 12 If.C v.ifs a.ifs).v.ownBlock = some gg := by show v.ifs.ownBlock = _; rw [hv]; rfl
  have hgb : gg ≠ b := fun e => h.br (List.mem_filterMap.2 ⟨rowE 68 12 If.C v.ifs a.ifs, by simp [AlR], by rw [hown, e]⟩)
  have HC := hid (zHu gg (a.iface * 12) b B cur (ifGet a) word no p w (Cm.start hpt h.st hgb hB) (h.env he) hs)
  have c29 : w.cell? ⟨g, 29, none⟩ = .some (.pointer (some ⟨gg, a.iface * 12, none⟩)) := by rw [← hp]; exact h.cell 29
  have E : Hid (innS word no a p = ({ a with ifs := zAl a.ifs a.iface (ifCmd (ifGet a) word no p).1 }, (ifCmd (ifGet a) word no p).2)) := hid (by unfold innS; rw [if_pos b1])
  have H := hid h
  have HL := hid hl
  have HV := hid hv
  have HP := hid hp
  have HPut := hid hput
  have HLT := hid hlt
  have HOwn := hid hown
  have HB1 := hid b1
  clear h hl hI hv hp hput hlt hown b1 HO hpt hget hk he hs
  go_enter Tryz.func59, Tryz.ntmps59
  go_wp2_with fail
  refine HC.out.mono ?_
  rintro e w1 ⟨rfl, hc⟩
  have R := RS.swap (pre := []) (X := [rowE 68 12 If.C v.ifs a.ifs]) (X' := [rowE 68 12 If.C v.ifs (zAl a.ifs a.iface (ifCmd (ifGet a) word no p).1)]) (post := (AlR a v).drop 1) H.out (hc.fr.mono (fun k hk => by
    simp only [List.mem_cons, List.not_mem_nil, or_false] at hk
    rcases hk with rfl | rfl
    ·exact List.mem_cons_of_mem _ (List.mem_filterMap.2 ⟨_, List.mem_singleton.2 rfl, HOwn.out⟩)
    ·exact List.mem_cons_self)) hc.st ⟨fun r hr => by obtain rfl := List.mem_singleton.1 hr; exact HPut.out _ _ hc.part.1, by rw [List.filterMap_cons]; split <;> simp⟩ (fun k hk => .inl hk)
  have HR := hid R
  clear R hc
  go_wp2_with fail
  go_end0
  rw [E.out]
  exact ⟨rfl, v, HR.out, HL.out, fun _ => ⟨gg, cap, by show _ = Value.slice _ (zAl a.ifs a.iface _).length _; rw [zBg HLT.out]; exact HV.out, HP.out⟩, fun h => absurd ((show a.block = 2 from h).symm.trans HB1.out) (by decide)⟩
 by_cases b2 : a.block = 2
 ·obtain ⟨v, h, hl, -, hC⟩ := h
  obtain ⟨m, gg, cap, hm, hv, hp⟩ := hC b2
  obtain ⟨hl1, hl2, hl3⟩ := hl
  obtain ⟨y, hy, hlt⟩ := hk.clause b2
  rw [b2] at c28
  have hym : y = m.ls := by
   rw [hl2, List.getElem?_map, hm] at hy
   exact (Option.some.inj hy).symm
  subst hym
  have hk1 : a.clause.1 < v.mm.length := (List.getElem?_eq_some_iff.1 hm).1
  have hme : v.mm[a.clause.1] = m := (List.getElem?_eq_some_iff.1 hm).2
  have hlt2 : a.clause.2 < m.items.length := hlt
  have eR : AlR a v = (AlR a v).take 11 ++ rowsP v ++ zAr 137 3 101 7 Cl.C v.maps v.mm ++ rowsA v := by simp [AlR, rowsM]
  have R := h
  rw [eR, zFr _ _ hk1, hme] at R
  obtain ⟨A, hA⟩ : ∃ A, A = (v.mm.take a.clause.1).flatMap (Lm.rows 3 101 7 Cl.C) := ⟨_, rfl⟩
  obtain ⟨Bq, hBq⟩ : ∃ A, A = (v.mm.drop (a.clause.1 + 1)).flatMap (Lm.rows 3 101 7 Cl.C) := ⟨_, rfl⟩
  rw [← hA, ← hBq] at R
  have HO : OwnE w B 101 7 Cl.C m.iv m.items := R.iAt
  obtain ⟨gg', cap', cur, e, hB, hpt, hput⟩ := HO.part (by decide) (fun _ => rfl) hlt2
  rw [hv] at e
  injection e with e1 _ _
  injection e1 with e1
  injection e1 with e1 _ _
  subst e1
  have hget : m.items[a.clause.2] = clGet a := by
   unfold clGet
   rw [hl2, List.getElem?_map, hm]
   show _ = (m.items[a.clause.2]?).getD _
   rw [List.getElem?_eq_getElem hlt2]; rfl
  rw [hget] at hpt
  have hown : (rowE 101 7 Cl.C m.iv m.items).v.ownBlock = some gg := by show m.iv.ownBlock = _; rw [hv]; rfl
  have hgb : gg ≠ b := fun e => R.br (List.mem_filterMap.2 ⟨rowE 101 7 Cl.C m.iv m.items, by simp [lf], by rw [hown, e]⟩)
  have HC := hid (zJu gg (a.clause.2 * 7) b B cur (clGet a) word no p w (Cm.start hpt h.st hgb hB))
  have c30 : w.cell? ⟨g, 30, none⟩ = .some (.pointer (some ⟨gg, a.clause.2 * 7, none⟩)) := by rw [← hp]; exact h.cell 30
  have E : Hid (innS word no a p = (clSet a (clCmd (clGet a) word no p).1, (clCmd (clGet a) word no p).2)) := hid (by unfold innS; rw [if_neg b1, if_pos b2])
  have ES : ∀ c, clSet a c = { a with maps := zAl a.maps a.clause.1 { m.ls with items := zAl m.ls.items a.clause.2 c } } := fun c => by
   unfold clSet
   rw [show a.maps[a.clause.1]? = some m.ls from by rw [hl2, List.getElem?_map, hm]; rfl]
  rw [lf_i] at R
  have HES := hid ES
  have HR0 := hid R
  have HL1 := hid hl1
  have HL2 := hid hl2
  have HL3 := hid hl3
  have HV := hid hv
  have HP := hid hp
  have HPut := hid hput
  have HLT := hid hlt2
  have HK1 := hid hk1
  have HME := hid hme
  have HOwn := hid hown
  have HB1 := hid b1
  have HA := hid hA
  have HBq := hid hBq
  clear h hl1 hl2 hl3 hC hv hp hput hlt hlt2 hown b1 HO hpt hget hk he hs hA hBq hm hme R ES eR hy
  go_enter Tryz.func59, Tryz.ntmps59
  go_wp2_with fail
  refine HC.out.mono ?_
  rintro e w1 ⟨rfl, hc⟩
  have R := RS.swap (X := [rowE 101 7 Cl.C m.iv m.items]) (X' := [rowE 101 7 Cl.C m.iv (zAl m.items a.clause.2 (clCmd (clGet a) word no p).1)]) (post := Bq ++ rowsA v) (by have := HR0.out; rw [List.append_cons] at this; exact this) (hc.fr.mono (fun k hk => by
    simp only [List.mem_cons, List.not_mem_nil, or_false] at hk
    rcases hk with rfl | rfl
    ·exact List.mem_cons_of_mem _ (List.mem_filterMap.2 ⟨_, List.mem_singleton.2 rfl, HOwn.out⟩)
    ·exact List.mem_cons_self)) hc.st ⟨fun r hr => by obtain rfl := List.mem_singleton.1 hr; exact HPut.out _ _ hc.part.1, by rw [List.filterMap_cons]; split <;> simp⟩ (fun k hk => .inl hk)
  rw [← List.append_cons, ← lf_i, HA.out, HBq.out, ← zFl HK1.out (m := (⟨m.name, m.seqs, zAl m.items a.clause.2 (clCmd (clGet a) word no p).1, m.sv, m.iv, m.s1, m.i1⟩ : Lm Cl)) (by rw [HME.out]; rfl)] at R
  have R2 := (zDr (Ti := 3) (Te := 101) (n := 7) (cells := Cl.C) (Tl := 137) (ms := v.mm) ((AlR a v).take 11 ++ rowsP v) (rowsA v) a.clause.1 (⟨m.name, m.seqs, zAl m.items a.clause.2 (clCmd (clGet a) word no p).1, m.sv, m.iv, m.s1, m.i1⟩ : Lm Cl) v.maps) ▸ R
  have HR := hid R2
  clear R R2 hc HR0
  go_wp2_with fail
  go_end0
  rw [E.out, HES.out]
  refine ⟨rfl, { v with mm := zAl v.mm a.clause.1 ⟨m.name, m.seqs, zAl m.items a.clause.2 (clCmd (clGet a) word no p).1, m.sv, m.iv, m.s1, m.i1⟩ }, rows_maps (a := a) (v := v) HR.out, ⟨HL1.out, by rw [zDs, ← HL2.out]; rfl, HL3.out⟩, fun h => absurd (show a.block = 1 from h) HB1.out, fun _ => ⟨⟨m.name, m.seqs, zAl m.items a.clause.2 (clCmd (clGet a) word no p).1, m.sv, m.iv, m.s1, m.i1⟩, gg, cap, zDf HK1.out _, ?_, HP.out⟩⟩
  show m.iv = Value.slice _ (zAl m.items a.clause.2 _).length _
  rw [zBg HLT.out]
  exact HV.out
 have HA := hid h
 have HE := hid he
 have HS := hid hs
 have HK := hid (hk.up (show 1000000 ≤ 1000000000 by decide))
 have z1 : (a.block == 1) = false := by simpa using b1
 have z2 : (a.block == 2) = false := by simpa using b2
 by_cases b3 : a.block = 3
 ·have E : Hid (innS word no a p = lsCmd word no a p) := hid (by unfold innS; rw [if_neg b1, if_neg b2, if_pos b3])
  rw [b3] at c28
  clear h hk he hs b1 b2 z1 z2 
  go_enter Tryz.func59, Tryz.ntmps59
  go_wp2_with fail
  refine (zHr g b B w0 a word no p w HA.out HK.out HE.out HS.out).mono ?_
  rintro e w1 ⟨rfl, hc⟩
  have HC := hid hc
  clear hc
  go_wp2_with fail
  go_end0
  rw [E.out]
  exact ⟨rfl, HC.out⟩
 have z3 : (a.block == 3) = false := by simpa using b3
 by_cases b4 : a.block = 4
 ·have E : Hid (innS word no a p = dvCmd word no a p) := hid (by unfold innS; rw [if_neg b1, if_neg b2, if_neg b3, if_pos b4])
  rw [b4] at c28
  clear h hk he hs b1 b2 z1 z2 b3 z3
  go_enter Tryz.func59, Tryz.ntmps59
  go_wp2_with fail
  refine (zIj g b B w0 a word no p w HA.out HK.out HE.out HS.out).mono ?_
  rintro e w1 ⟨rfl, hc⟩
  have HC := hid hc
  clear hc
  go_wp2_with fail
  go_end0
  rw [E.out]
  exact ⟨rfl, HC.out⟩
 have z4 : (a.block == 4) = false := by simpa using b4
 by_cases b5 : a.block = 5
 ·have E : Hid (innS word no a p = pvCmd word no a p) := hid (by unfold innS; rw [if_neg b1, if_neg b2, if_neg b3, if_neg b4, if_pos b5])
  rw [b5] at c28
  clear h hk he hs b1 b2 z1 z2 b3 z3 b4 z4
  go_enter Tryz.func59, Tryz.ntmps59
  go_wp2_with fail
  refine (pathCommand_any g b B w0 a word no p w HA.out HK.out HE.out HS.out).mono ?_
  rintro e w1 ⟨rfl, hc⟩
  have HC := hid hc
  clear hc
  go_wp2_with fail
  go_end0
  rw [E.out]
  exact ⟨rfl, HC.out⟩
 have z5 : (a.block == 5) = false := by simpa using b5
 have E : Hid (innS word no a p = (a, p)) := hid (by unfold innS; rw [if_neg b1, if_neg b2, if_neg b3, if_neg b4, if_neg b5])
 clear h hk he hs
 go_enter Tryz.func59, Tryz.ntmps59
 go_wp2_with fail
 go_end0
 rw [E.out]
 exact ⟨rfl, HA.out⟩
def FsV (w : World) (B : Nat) (v : Value) (fs : List (List UInt8)) : Prop := ∃ A c, v = .slice A fs.length c ∧ fs.length ≤ c ∧ Slc w B 1 v fs.length (fs.map strV)
theorem FsV.below {w w' : World} {B : Nat} {v : Value} {fs : List (List UInt8)} (h : FsV w B v fs) (hb : Below B w w') : FsV w' B v fs := by
 obtain ⟨A, c, e, h1, h2⟩ := h
 exact ⟨A, c, e, h1, h2.below hb⟩
theorem FsV.pop {w : World} {B : Nat} {v : Value} {f : List UInt8} {r : List (List UInt8)} (h : FsV w B v (f :: r)) :
  ∃ g o c, v = .slice (some ⟨g, o, none⟩) (r.length + 1) c ∧ w.cell? ⟨g, o, none⟩ = some (.string (str f)) ∧ r.length + 1 ≤ c ∧ r.length + 1 ≤ 9223372036854775807 ∧
   ∀ A', (c ≠ 1 → A' = some ⟨g, o + 1, none⟩) → A' ≠ none → FsV w B (.slice A' r.length (c - 1)) r := by
 obtain ⟨A, c, rfl, hc, hs⟩ := h
 obtain ⟨A0, c0, e, hm, hl, hA, hx⟩ := hs
 cases e
 obtain ⟨g, o, rfl, hg, hcell⟩ := hx (by simp)
 refine ⟨g, o, c, rfl, by show w.cell? ⟨g, o, none⟩ = some (strV f); simpa using hcell 0 (strV f) rfl, by simpa using hc, by simp only [maxLen, List.length_cons] at hm; omega, fun A' hA' hn => ⟨A', c - 1, rfl, ?_, A', c - 1, rfl, ?_, by simp, fun h => absurd h hn, fun hr => ⟨g, o + 1, hA' ?_, hg, fun j u hu => ?_⟩⟩⟩
 ·simp only [List.length_cons] at hc; omega
 ·simp only [List.length_cons] at hm; omega
 ·simp only [List.length_cons] at hc; omega
 ·have := hcell (j + 1) u (by simpa using hu)
  rw [show o + 1 + j = o + (j + 1) from by omega]
  exact this
theorem FsV.st {T : TypeId} {w : World} {B : Nat} {v : Value} {fs : List (List UInt8)} (h : FsV w B v fs) (hB : B ≤ w.heap.size) : WSt T w.heap.size B ⟨fs, false⟩ (w.alloc (.cells #[v, .bool false] T)) := by
 obtain ⟨A, c, rfl, h1, h2⟩ := h
 exact ⟨hB, _, heap_alloc_new w _, h2.below (((Below.refl _ w).alloc (Nat.le_refl _) _).mono hB), A, c, rfl, h1⟩
def RZ (g B : Nat) (w0 : World) (a : Al) (w : World) : Prop :=
 ∃ v : Av, (HasC 88 g (AlC a v) w ∧ OwnAll w B (AlR a v) ∧ Below B w0 w ∧ g ∉ blks (AlR a v) ∧ B ≤ w0.heap.size ∧ B ≤ g) ∧ (a.lists = v.lm.map Lm.ls ∧ a.maps = v.mm.map Lm.ls ∧ a.acls = v.am.map Lm.ls) ∧
  (a.block = 1 → ∃ gg cap, v.ifs = .slice (some ⟨gg, 0, none⟩) a.ifs.length cap ∧ v.ifp = .pointer (some ⟨gg, a.iface * 12, none⟩)) ∧
  (a.block = 2 → ∃ m gg cap, v.mm[a.clause.1]? = some m ∧ m.iv = .slice (some ⟨gg, 0, none⟩) m.items.length cap ∧ v.clp = .pointer (some ⟨gg, a.clause.2 * 7, none⟩))
section
variable {g b B : Nat} {w0 w w' : World} {a : Al} {p : Ps}
theorem RA.rz (h : RA g b B w0 a p w) : RZ g B w0 a w := by
 obtain ⟨v, h, hr⟩ := h
 exact ⟨v, ⟨h.has, h.own, h.bel, h.gr, h.bB, h.gB⟩, hr⟩
theorem RZ.size (h : RZ g B w0 a w) : B ≤ w.heap.size := by
 obtain ⟨v, ⟨-, -, h3, -, h5, -⟩, -⟩ := h
 exact Nat.le_trans h5 h3.size
theorem RZ.below (h : RZ g B w0 a w) : Below B w0 w := by
 obtain ⟨v, ⟨-, -, h3, -⟩, -⟩ := h
 exact h3
theorem RZ.ra (h : RZ g B w0 a w) (hs : WSt 131 b B p w') (hb : Below w.heap.size w w') (hn : w.heap.size ≤ b) : RA g b B w0 a p w' := by
 have hB := h.size
 obtain ⟨v, ⟨h1, h2, h3, h4, h5, h6⟩, hr⟩ := h
 have hg := zBf h1
 exact ⟨v, ⟨h1.keep hb, h2.below hb, hs, h3.trans (hb.mono hB), h5, h6, by omega, h4, fun hm => by have := (OwnAll.lt h2 hm).1; omega⟩, hr⟩
theorem RA.close (h : RA g b B w0 a p w) : RA g b B w0 { a with block := 0 } p (w.setCell ⟨g, 28, none⟩ (.int .i64 0)) := by
 obtain ⟨v, h, hl, -, -⟩ := h
 exact ⟨v, h.put 28 (.int .i64 0) rfl, hl, fun h => absurd (show (0 : Int) = 1 from h) (by decide), fun h => absurd (show (0 : Int) = 2 from h) (by decide)⟩
theorem RA.frz (h : RA g b B w0 a p w) (j : Nat) : w.frozen? ⟨g, j, none⟩ = false := by obtain ⟨v, h, -⟩ := h; exact h.frz j
theorem RA.c28 (h : RA g b B w0 a p w) : w.cell? ⟨g, 28, none⟩ = some (.int .i64 a.block) := by obtain ⟨v, h, -⟩ := h; exact h.cell 28
end
def comS (no : Bool) (word : List UInt8) (r : List (List UInt8)) (a : Al) : Sa := if belB a.block word then innS word no a ⟨r, false⟩ else if no then remS word { a with block := 0 } ⟨r, false⟩ else globS word { a with block := 0 } ⟨r, false⟩
theorem lineS_no {f : List UInt8} {r : List (List UInt8)} (a : Al) (h : (f == [110, 111]) = false) : lineS (f :: r) a = ((comS false f r a).1, doneB (comS false f r a).2) := by
 have e : ((f :: r).head? == some [110, 111]) = false := h
 unfold lineS comS
 rw [e]
 rfl
theorem lineS_one {f : List UInt8} (a : Al) (h : (f == [110, 111]) = true) : lineS [f] a = (a, false) := by
 have e : ([f].head? == some [110, 111]) = true := h
 unfold lineS
 rw [e]
 rfl
theorem lineS_yes {f word : List UInt8} {r : List (List UInt8)} (a : Al) (h : (f == [110, 111]) = true) : lineS (f :: word :: r) a = ((comS true word r a).1, doneB (comS true word r a).2) := by
 have e : ((f :: word :: r).head? == some [110, 111]) = true := h
 unfold lineS comS
 rw [e]
 rfl
theorem line_any (g B : Nat) (w0 : World) (a : Al) (v : Value) (fs : List (List UInt8)) (w : World) (h : RZ g B w0 a w) (hk : AlOk 1000000 a) (he : EnvA B w0) (hf : FsV w B v fs) (hne : fs ≠ []) (hs : ∀ f ∈ fs, f.length ≤ 1000000000) :
  Calls Tryz.prog 34 #[.pointer (some ⟨g, 0, none⟩), v] w fun e w' => e = .returned (.bool (lineS fs a).2) ∧ RZ g B w0 (lineS fs a).1 w' := by
 cases fs with
 | nil => exact absurd rfl hne
 | cons f r =>
 obtain ⟨gf, of, cf, rfl, c0, hcf, hmf, hpop⟩ := hf.pop
 have q : ((str f).toList == [110, 111]) = (f == [110, 111]) := by rw [zAb]
 have HZ := hid h
 have HE := hid he
 have HK := hid hk
 have HPop := hid hpop
 have hB := h.size
 cases hno : (f == [110, 111]) with
 | false =>
  rw [hno] at q
  have E : Hid (lineS (f :: r) a = ((comS false f r a).1, doneB (comS false f r a).2)) := hid (lineS_no a hno)
  have HS : Hid ((⟨r, false⟩ : Ps).short) := hid (fun x hx => hs x (List.mem_cons_of_mem _ hx))
  have hB2 := hB
  clear h hk he hf hne hs hpop hno hB
  have hn0 : ¬ (((r.length + 1 : Nat) : Int) = 0) := by omega
  have hz0 : (((r.length : Int) + 1) == 0) = false := by simp; omega
  go_enter Tryz.func34, Tryz.ntmps34
  go_upto_region 7 with (fail)
  go_cut [1, 7] (fun f1 l0 wx => l0 = .pointer (some ⟨w.heap.size, 0, none⟩) ∧ RA g w.heap.size B w0 a ⟨r, false⟩ wx)
  case first =>
   go_wp2_with fail
   ·go_meet
    have q := HPop.out (some ⟨gf, of, none⟩) (fun h' => absurd (by assumption) h') (by simp)
    rw [show cf - 1 = 0 from by omega] at q
    exact ⟨rfl, HZ.out.ra (FsV.st q hB2) ((Below.refl _ w).alloc (Nat.le_refl _) _) (Nat.le_refl _)⟩
   ·go_meet
    exact ⟨rfl, HZ.out.ra (FsV.st (HPop.out (some ⟨gf, of + 1, none⟩) (fun _ => rfl) (by simp)) hB2) ((Below.refl _ w).alloc (Nat.le_refl _) _) (Nat.le_refl _)⟩
  case rest =>
   obtain ⟨rfl, R⟩ := hcut
   have HR := hid R
   have c28 := R.c28
   have fz := R.frz
   clear R
   go_wp2_with fail
   refine (belongs_any a.block f _).mono ?_
   rintro e w2 ⟨rfl, rfl⟩
   cases hb : belB a.block f with
   | true =>
    have EC : Hid (comS false f r a = innS f false a ⟨r, false⟩) := hid (by unfold comS; rw [hb]; rfl)
    clear hb
    go_wp2_with fail
    refine (inner_any g w.heap.size B w0 a f false ⟨r, false⟩ _ HR.out HK.out HE.out HS.out).mono ?_
    rintro e w3 ⟨rfl, h3⟩
    have H3 := hid h3
    clear h3
    go_wp2_with fail
    refine (zJi _ B _ _ H3.out.st).mono ?_
    rintro e w4 ⟨rfl, rfl⟩
    go_wp2_with fail
    go_ret
    rw [E.out, EC.out]
    exact ⟨rfl, H3.out.rz⟩
   | false =>
    have EC : Hid (comS false f r a = globS f { a with block := 0 } ⟨r, false⟩) := hid (by unfold comS; rw [hb]; rfl)
    have HR2 := hid HR.out.close
    clear hb
    go_wp2_with fail
    refine (global_any g w.heap.size B w0 { a with block := 0 } f ⟨r, false⟩ _ HR2.out HK.out.closed HE.out HS.out rfl).mono ?_
    rintro e w3 ⟨rfl, h3⟩
    have H3 := hid h3
    clear h3
    go_wp2_with fail
    refine (zJi _ B _ _ H3.out.st).mono ?_
    rintro e w4 ⟨rfl, rfl⟩
    go_wp2_with fail
    go_ret
    rw [E.out, EC.out]
    exact ⟨rfl, H3.out.rz⟩
 | true =>
  rw [hno] at q
  cases r with
  | nil =>
   have E : Hid (lineS [f] a = (a, false)) := hid (lineS_one a hno)
   clear h hk he hf hne hs hpop hno hB
   go_enter Tryz.func34, Tryz.ntmps34
   go_wp2_with fail
   all_goals
    go_ret
    rw [E.out]
    exact ⟨rfl, HZ.out⟩
  | cons word r =>
   have E : Hid (lineS (f :: word :: r) a = ((comS true word r a).1, doneB (comS true word r a).2)) := hid (lineS_yes a hno)
   have HS : Hid ((⟨r, false⟩ : Ps).short) := hid (fun x hx => hs x (List.mem_cons_of_mem _ (List.mem_cons_of_mem _ hx)))
   have hp1 : FsV w B (.slice (some ⟨gf, of + 1, none⟩) (r.length + 1) (cf - 1)) (word :: r) := hpop (some ⟨gf, of + 1, none⟩) (fun _ => rfl) (by simp)
   obtain ⟨gf', of', cf', e', c1, hcf1, -, hpop1⟩ := hp1.pop
   injection e' with e1 _ e3
   injection e1 with e1
   injection e1 with e1 e2 _
   subst e1 e2 e3
   have HPop1 := hid hpop1
   have hB2 := hB
   simp only [List.length_cons] at hcf hmf
   clear h hk he hf hne hs hpop hno hB hp1 hpop1
   have hn0 : ¬ (((r.length + 1 : Nat) : Int) = 0) := by omega
   have hz0 : (((r.length : Int) + 1) == 0) = false := by simp; omega
   have hc1 : ¬ (cf = 1) := by omega
   have hc2 : (1 : Nat) ≤ cf := by omega
   rw [List.length_cons]
   go_enter Tryz.func34, Tryz.ntmps34
   go_upto_region 7 with (fail)
   go_cut [1, 7] (fun f1 l0 wx => l0 = .pointer (some ⟨w.heap.size, 0, none⟩) ∧ RA g w.heap.size B w0 a ⟨r, false⟩ wx)
   case first =>
    go_wp2_with fail
    ·go_meet
     have q := HPop1.out (some ⟨gf, of + 1, none⟩) (fun h' => absurd (show cf - 1 = 1 by omega) h') (by simp)
     rw [show cf - 1 - 1 = 0 from by omega] at q
     exact ⟨rfl, HZ.out.ra (FsV.st q hB2) ((Below.refl _ w).alloc (Nat.le_refl _) _) (Nat.le_refl _)⟩
    ·go_meet
     exact ⟨rfl, HZ.out.ra (FsV.st (HPop1.out (some ⟨gf, of + 1 + 1, none⟩) (fun _ => rfl) (by simp)) hB2) ((Below.refl _ w).alloc (Nat.le_refl _) _) (Nat.le_refl _)⟩
   case rest =>
    obtain ⟨rfl, R⟩ := hcut
    have HR := hid R
    have c28 := R.c28
    have fz := R.frz
    clear R
    go_wp2_with fail
    refine (belongs_any a.block word _).mono ?_
    rintro e w2 ⟨rfl, rfl⟩
    cases hb : belB a.block word with
    | true =>
     have EC : Hid (comS true word r a = innS word true a ⟨r, false⟩) := hid (by unfold comS; rw [hb]; rfl)
     clear hb
     go_wp2_with fail
     refine (inner_any g w.heap.size B w0 a word true ⟨r, false⟩ _ HR.out HK.out HE.out HS.out).mono ?_
     rintro e w3 ⟨rfl, h3⟩
     have H3 := hid h3
     clear h3
     go_wp2_with fail
     refine (zJi _ B _ _ H3.out.st).mono ?_
     rintro e w4 ⟨rfl, rfl⟩
     go_wp2_with fail
     go_ret
     rw [E.out, EC.out]
     exact ⟨rfl, H3.out.rz⟩
    | false =>
     have EC : Hid (comS true word r a = remS word { a with block := 0 } ⟨r, false⟩) := hid (by unfold comS; rw [hb]; rfl)
     have HR2 := hid HR.out.close
     clear hb
     go_wp2_with fail
     refine (rremove_any g w.heap.size B w0 { a with block := 0 } word ⟨r, false⟩ _ HR2.out HK.out.closed HE.out HS.out rfl).mono ?_
     rintro e w3 ⟨rfl, h3⟩
     have H3 := hid h3
     clear h3
     go_wp2_with fail
     refine (zJi _ B _ _ H3.out.st).mono ?_
     rintro e w4 ⟨rfl, rfl⟩
     go_wp2_with fail
     go_ret
     rw [E.out, EC.out]
     exact ⟨rfl, H3.out.rz⟩
def rtE : Array Value := #[strV [], .int .i64 0, .slice none 0 0, .slice none 0 0, .slice none 0 0, .slice none 0 0, .slice none 0 0, .slice none 0 0, .bool false, .int .i64 0, .slice none 0 0, .slice none 0 0, .bool false, .int .i64 0, strV [], strV [], .slice none 0 0, .bool false, .int .i64 0, .int .i64 0, .slice none 0 0, .slice none 0 0, .slice none 0 0, .slice none 0 0, .slice none 0 0]
def plOf (m : Lm PRule) : PList := ⟨m.name, m.iv, m.items⟩
def rmOf (m : Lm Cl) : RMap := ⟨m.name, m.iv, m.items⟩
def alOf (m : Lm Ru) : AList := ⟨m.name, m.iv, m.items⟩
def Rt.plain (r : Rt) : Rt := { r with ifsV := .slice none 0 0, listsV := .slice none 0 0, mapsV := .slice none 0 0, aclsV := .slice none 0 0, natV := .slice none 0 0, statV := .slice none 0 0, rangesV := .slice none 0 0, lsRedV := .slice none 0 0, dvRedV := .slice none 0 0, nbV := .slice none 0 0, netV := .slice none 0 0, agV := .slice none 0 0, cdV := .slice none 0 0, pvRedV := .slice none 0 0, lists := r.lists.map (fun x => ⟨x.name, .slice none 0 0, x.rules⟩), maps := r.maps.map (fun x => ⟨x.name, .slice none 0 0, x.clauses⟩), acls := r.acls.map (fun x => ⟨x.name, .slice none 0 0, x.rules⟩) }
def alRt (a : Al) : Rt where
 name := a.name
 asn := a.asn
 ifsV := .slice none 0 0
 listsV := .slice none 0 0
 mapsV := .slice none 0 0
 aclsV := .slice none 0 0
 natV := .slice none 0 0
 statV := .slice none 0 0
 lsOn := a.lsOn
 lsAdmin := a.lsAdmin
 rangesV := .slice none 0 0
 lsRedV := .slice none 0 0
 dvOn := a.dvOn
 dvAdmin := a.dvAdmin
 dvIn := a.dvIn
 dvOut := a.dvOut
 dvRedV := .slice none 0 0
 pvOn := a.pvOn
 ext := a.ext
 int := a.int
 nbV := .slice none 0 0
 netV := .slice none 0 0
 agV := .slice none 0 0
 cdV := .slice none 0 0
 pvRedV := .slice none 0 0
 ifs := a.ifs
 lists := a.lists.map (fun x => ⟨x.name, .slice none 0 0, x.items⟩)
 maps := a.maps.map (fun x => ⟨x.name, .slice none 0 0, x.items⟩)
 acls := a.acls.map (fun x => ⟨x.name, .slice none 0 0, x.items⟩)
 nat := a.nat
 stat := a.stat
 ranges := a.ranges
 lsRed := a.lsRed
 dvRed := a.dvRed
 nb := a.nb
 net := a.net
 ag := a.ag
 cd := a.cd
 pvRed := a.pvRed
def rtF (a : Al) (v : Av) (L M A : Value) (ls : List PList) (mp : List RMap) (ac : List AList) : Rt := { rtZ a v with listsV := L, mapsV := M, aclsV := A, lists := ls, maps := mp, acls := ac }
structure RO (br bx : Nat) (w0 : World) (cs : Array Value) (rs : List Orow) (w : World) : Prop where
 res : HasC 41 br rtE w
 has : HasC 41 bx cs w
 own : OwnAll w (bx + 1) rs
 bel : Below w0.heap.size w0 w
 lo : w0.heap.size ≤ br
 lt : br < bx
section
variable {br bx : Nat} {w0 w w' : World} {cs cs' : Array Value} {rs pre post : List Orow} {r r' : Orow}
theorem RO.keep (h : RO br bx w0 cs rs w) (hb : Below w.heap.size w w') : RO br bx w0 cs rs w' :=
 ⟨h.res.keep hb, h.has.keep hb, h.own.below hb, h.bel.trans (hb.mono h.bel.size), h.lo, h.lt⟩
theorem RO.row (h : RO br bx w0 cs (pre ++ r :: post) w) (hg : w.grownBy w' r.v.ownBlock) (ho : r'.own w' (bx + 1)) (hn : r'.v.ownBlock = r.v.ownBlock ∨ r'.v.ownBlock = none ∨ ∃ k, r'.v.ownBlock = some k ∧ w.heap.size ≤ k) : RO br bx w0 cs (pre ++ r' :: post) w' := by
 have h1 := h.lo
 have h2 := h.lt
 have h3 := h.bel.size
 have hk : ∀ k, r.v.ownBlock = some k → bx + 1 ≤ k := fun k e => (Orow.own.lt (h.own.1 r (by simp)) e).2
 refine ⟨h.res.grown hg (fun e => ?_), h.has.grown hg (fun e => ?_), h.own.upd hg ho hn, h.bel.trans ((Fr.of_grown (rs := blks [r]) hg (fun g e => List.mem_filterMap.2 ⟨r, by simp, e⟩)).below (fun k hm => ?_) h3), h1, h2⟩
 ·have := hk _ e.symm; omega
 ·have := hk _ e.symm; omega
 ·obtain ⟨x, hx, e⟩ := List.mem_filterMap.1 hm
  obtain rfl := List.mem_singleton.1 hx
  have := hk _ e; omega
theorem RO.put (h : RO br bx w0 cs rs w) (j : Nat) (v : Value) (e : cs.setIfInBounds j v = cs') : RO br bx w0 cs' rs (w.setCell ⟨bx, j, none⟩ v) := by
 have h1 := h.lo
 have h2 := h.lt
 have h3 := h.bel.size
 have hg := zBj w bx j v
 refine ⟨h.res.grown hg (fun e => by have := Option.some.inj e; omega), ?_, h.own.frame hg (fun k hk hm => by have := (OwnAll.lt h.own hm).2; have := Option.some.inj hk; omega), h.bel.trans ((Fr.of_grown (rs := [bx]) hg (fun g e => by rw [← Option.some.inj e]; simp)).below (fun k hm => by have := List.mem_singleton.1 hm; omega) h3), h1, h2⟩
 subst e
 exact Lib.heap_setCell_same (i := j) h.has v
end
theorem HasC.loadR {P : Program} {T : TypeId} {g : Nat} {cs : Array Value} {w : World} (h : HasC T g cs w) (hr : (P.underlying T).map TypeDesc.isRow = some true) (hs : (P.info? T).map (·.size) = some cs.size) : (loadVar T ⟨g, 0, none⟩).run P w = .ok (.agg cs) w := by
 obtain ⟨d, hu, hd⟩ := row_of hr
 have := run_loadVar_mid (P := P) w g 0 T cs.toList d h.range hu hd (by simpa using hs)
 simpa using this
theorem OwnAll.own' {w : World} {B : Nat} {rs : List Orow} (h : OwnAll w B rs) {α : Type} {Te : TypeId} {n : Nat} {cells : α → Array Value} {x : Value} {l : List α} (hm : rowE Te n cells x l ∈ rs) : OwnE w B Te n cells x l := h.1 _ hm
theorem rtZ_at {a : Al} {v : Av} {w : World} {B : Nat} (h : OwnAll w B (AlR a v)) : (rtZ a v).at w w.heap.size where
 hifs := OwnE.slv (v := v.ifs) (l := a.ifs) (T := 68) (h.own' (by simp [AlR]))
 hlists := (OwnE.nil (B := 0) (T := 0) (n := 2) (cells := PList.C)).slv
 nlists := fun _ h => by cases h
 hmaps := (OwnE.nil (B := 0) (T := 0) (n := 2) (cells := RMap.C)).slv
 nmaps := fun _ h => by cases h
 hacls := (OwnE.nil (B := 0) (T := 0) (n := 2) (cells := AList.C)).slv
 nacls := fun _ h => by cases h
 hnat := OwnE.slv (v := v.nat) (l := a.nat) (T := 70) (h.own' (by simp [AlR]))
 hstat := OwnE.slv (v := v.stat) (l := a.stat) (T := 74) (h.own' (by simp [AlR]))
 hranges := OwnE.slv (v := v.ranges) (l := a.ranges) (T := 113) (h.own' (by simp [AlR]))
 hlsRed := OwnE.slv (v := v.lsRed) (l := a.lsRed) (T := 151) (h.own' (by simp [AlR]))
 hdvRed := OwnE.slv (v := v.dvRed) (l := a.dvRed) (T := 151) (h.own' (by simp [AlR]))
 hnb := OwnE.slv (v := v.nb) (l := a.nb) (T := 115) (h.own' (by simp [AlR]))
 hnet := OwnE.slv (v := v.net) (l := a.net) (T := 72) (h.own' (by simp [AlR]))
 hag := OwnE.slv (v := v.ag) (l := a.ag) (T := 117) (h.own' (by simp [AlR]))
 hcd := OwnE.slv (v := v.cd) (l := a.cd) (T := 119) (h.own' (by simp [AlR]))
 hpvRed := OwnE.slv (v := v.pvRed) (l := a.pvRed) (T := 151) (h.own' (by simp [AlR]))
theorem SlV.lift {α : Type} {w : World} {B B' n : Nat} {cells : α → Array Value} {v : Value} {xs : List α} (h : SlV w B n cells v xs) (hB : B ≤ B') : SlV w B' n cells v xs := by
 obtain ⟨A, c, e, h1, h2⟩ := h
 exact ⟨A, c, e, h1, h2.mono hB⟩
theorem Rt.at.lift {w : World} {B B' : Nat} {r : Rt} (h : r.at w B) (hB : B ≤ B') : r.at w B' := ⟨h.hifs.lift hB, h.hlists.lift hB, fun x hx => SlV.lift (h.nlists x hx) hB, h.hmaps.lift hB, fun x hx => SlV.lift (h.nmaps x hx) hB, h.hacls.lift hB, fun x hx => SlV.lift (h.nacls x hx) hB, h.hnat.lift hB, h.hstat.lift hB, h.hranges.lift hB, h.hlsRed.lift hB, h.hdvRed.lift hB, h.hnb.lift hB, h.hnet.lift hB, h.hag.lift hB, h.hcd.lift hB, h.hpvRed.lift hB⟩
theorem AlR_mem {a : Al} {v : Av} : (∀ m ∈ v.lm, rowE 96 5 PRule.C m.iv m.items ∈ AlR a v) ∧ (∀ m ∈ v.mm, rowE 101 7 Cl.C m.iv m.items ∈ AlR a v) ∧ (∀ m ∈ v.am, rowE 110 10 Ru.C m.iv m.items ∈ AlR a v) := by
 refine ⟨fun m hmem => ?_, fun m hmem => ?_, fun m hmem => ?_⟩ <;> simp only [AlR, rowsP, rowsM, rowsA, zAr, List.mem_cons, List.mem_append, List.mem_flatMap]
 ·exact .inr (.inr (.inr (.inr (.inr (.inr (.inr (.inr (.inr (.inr (.inr (.inl (.inl (.inr ⟨m, hmem, by simp [Lm.rows]⟩)))))))))))))
 ·exact .inr (.inr (.inr (.inr (.inr (.inr (.inr (.inr (.inr (.inr (.inr (.inl (.inr (.inr ⟨m, hmem, by simp [Lm.rows]⟩)))))))))))))
 ·exact .inr (.inr (.inr (.inr (.inr (.inr (.inr (.inr (.inr (.inr (.inr (.inr (.inr ⟨m, hmem, by simp [Lm.rows]⟩))))))))))))
theorem rtF_at {a : Al} {v : Av} {w wx : World} {B B2 : Nat} {L M A : Value} (ho : OwnAll w B (AlR a v)) (hown : OwnAll wx B2 [rowE 94 2 PList.C L (v.lm.map plOf), rowE 99 2 RMap.C M (v.mm.map rmOf), rowE 104 2 AList.C A (v.am.map alOf)]) (hb : Below w.heap.size w wx) :
  (rtF a v L M A (v.lm.map plOf) (v.mm.map rmOf) (v.am.map alOf)).at wx wx.heap.size := by
 have hz := ((rtZ_at ho).below hb).lift hb.size
 refine ⟨hz.hifs, OwnE.slv (v := L) (l := v.lm.map plOf) (T := 94) (hown.own' (by simp)), fun x hx => ?_, OwnE.slv (v := M) (l := v.mm.map rmOf) (T := 99) (hown.own' (by simp)), fun x hx => ?_, OwnE.slv (v := A) (l := v.am.map alOf) (T := 104) (hown.own' (by simp)), fun x hx => ?_, hz.hnat, hz.hstat, hz.hranges, hz.hlsRed, hz.hdvRed, hz.hnb, hz.hnet, hz.hag, hz.hcd, hz.hpvRed⟩
 ·obtain ⟨m, hm, rfl⟩ := List.mem_map.1 hx
  exact ((OwnE.slv (ho.own' (AlR_mem.1 m hm))).below hb).lift hb.size
 ·obtain ⟨m, hm, rfl⟩ := List.mem_map.1 hx
  exact ((OwnE.slv (ho.own' (AlR_mem.2.1 m hm))).below hb).lift hb.size
 ·obtain ⟨m, hm, rfl⟩ := List.mem_map.1 hx
  exact ((OwnE.slv (ho.own' (AlR_mem.2.2 m hm))).below hb).lift hb.size
theorem rtF_plain {a : Al} {v : Av} {L M A : Value} (h1 : a.lists = v.lm.map Lm.ls) (h2 : a.maps = v.mm.map Lm.ls) (h3 : a.acls = v.am.map Lm.ls) : (rtF a v L M A (v.lm.map plOf) (v.mm.map rmOf) (v.am.map alOf)).plain = alRt a := by
 unfold alRt
 rw [h1, h2, h3]
 unfold Rt.plain rtF rtZ
 simp only [List.map_map]
 rfl
theorem take_snoc {α : Type} {l : List α} {j : Nat} (h : j < l.length) : l.take (j + 1) = l.take j ++ [l[j]] := by
 rw [List.take_add_one, List.getElem?_eq_getElem h]
 rfl
theorem Tryz.infoOPList : (Tryz.prog.info? 94).map (fun i => (i.zero.map (fun z => z.cells.size), i.size, i.bytes)) = some (some 2, 2, 40) := by kernel_rfl
theorem Tryz.infoORMap : (Tryz.prog.info? 99).map (fun i => (i.zero.map (fun z => z.cells.size), i.size, i.bytes)) = some (some 2, 2, 40) := by kernel_rfl
theorem Tryz.infoOAList : (Tryz.prog.info? 104).map (fun i => (i.zero.map (fun z => z.cells.size), i.size, i.bytes)) = some (some 2, 2, 40) := by kernel_rfl
theorem router_any (g B : Nat) (w0 : World) (a : Al) (w : World) (h : RZ g B w0 a w) (hk : AlOk 1000000 a) :
  Calls Tryz.prog 35 #[.pointer (some ⟨g, 0, none⟩)] w fun e w' => ∃ r : Rt, e = .returned (.agg r.C) ∧ Below w.heap.size w w' ∧ r.plain = alRt a ∧ ∀ (ks : List Nat) w'', (∀ k ∈ ks, k < B) → Fr ks w' w'' → r.at w'' w''.heap.size := by
 obtain ⟨v, ⟨h1, h2, -, -, -, hgB⟩, ⟨hl1, hl2, hl3⟩, -, -⟩ := h
 have hg := zBf h1
 have H1 := hid h1
 have HOW := hid h2
 have HL1 := hid hl1
 have HL2 := hid hl2
 have HL3 := hid hl3
 have hm1 : v.lm.length ≤ 1000000 := by have := hk.lists.1; rw [hl1] at this; simpa using this
 have hm2 : v.mm.length ≤ 1000000 := by have := hk.maps.1; rw [hl2] at this; simpa using this
 have hm3 : v.am.length ≤ 1000000 := by have := hk.acls.1; rw [hl3] at this; simpa using this
 have HM1 := hid hm1
 have HM2 := hid hm2
 have HM3 := hid hm3
 have ho0 : OwnE w B 135 3 Lm.C v.lists v.lm := h2.1 (rowE 135 3 Lm.C v.lists v.lm) (by simp [AlR, rowsP, zAr])
 have HS0 := hid ho0.slv
 obtain ⟨A0, c0, e0, -⟩ := ho0.slv
 have EV0 := hid e0
 have ho1 : OwnE w B 137 3 Lm.C v.maps v.mm := h2.1 (rowE 137 3 Lm.C v.maps v.mm) (by simp [AlR, rowsM, zAr])
 have HS1 := hid ho1.slv
 obtain ⟨A1, c1, e1, -⟩ := ho1.slv
 have EV1 := hid e1
 have ho2 : OwnE w B 139 3 Lm.C v.acls v.am := h2.1 (rowE 139 3 Lm.C v.acls v.am) (by simp [AlR, rowsA, zAr])
 have HS2 := hid ho2.slv
 obtain ⟨A2, c2, e2, -⟩ := ho2.slv
 have EV2 := hid e2
 have hR : w.rangeAt g 0 (rtZ a v).C.toList := by
  have := World.rangeAt_of_block h1 0 25
  rwa [Nat.zero_add, rtZ_C] at this
 have HONE : Hid ((rtZ a v).C.all (·.oneCell') = true) := hid (rtZ_at h2).one
 have B1 := (Below.refl w.heap.size w).alloc (Nat.le_refl _) (.cells rtE 41)
 have HR := hid (zAg hR B1 hg)
 clear h1 h2 hl1 hl2 hl3 hm1 hm2 hm3 hk hR ho0 ho1 ho2 e0 e1 e2
 go_enter Tryz.func35, Tryz.ntmps35
 go_upto_region 1 with (fail)
 have HRES := hid (HasC.new w 41 rtE)
 have HB1 := hid B1
 clear B1
 change Code.wp _ _ _ _ (w.alloc (.cells rtE 41))
 generalize w.alloc (.cells rtE 41) = wA at HR HRES HB1 ⊢
 go_upto_region 2 with (first | (refine zAa rfl _ _ rfl rfl HR.out Tryz.rowRt Tryz.sizeRt ?_) | (refine zAd rfl 41 _ _ rfl rfl (ds := (rtZ a v).C) rfl (HasC.new _ _ _) rfl Tryz.sizeRt HONE.out ?_; intro w5 hz1 hz2))
 have hlt := zBf HRES.out
 have RZ0 : RO w.heap.size wA.heap.size w (rtF a v (.slice none 0 0) (.slice none 0 0) (.slice none 0 0) [] [] []).C [rowE 94 2 PList.C (.slice none 0 0) [], rowE 99 2 RMap.C (.slice none 0 0) [], rowE 104 2 AList.C (.slice none 0 0) []] w5 := by
  refine ⟨HRES.out.keep (zAn hz2), hz1, ⟨fun r hr => ?_, ?_⟩, HB1.out.trans ((zAn hz2).mono HB1.out.size), Nat.le_refl _, hlt⟩
  ·simp only [List.mem_cons, List.not_mem_nil, or_false] at hr
   rcases hr with rfl | rfl | rfl
   ·exact OwnE.nil (cells := PList.C)
   ·exact OwnE.nil (cells := RMap.C)
   ·exact OwnE.nil (cells := AList.C)
  ·exact List.nodup_nil
 have H5 := hid RZ0
 clear RZ0 hz1 hz2 HR HRES HB1 HONE hlt
 have c25 : w5.cell? ⟨g, 25, none⟩ = .some (.slice A0 v.lm.length c0) := by rw [← EV0.out]; exact (HasC.below H1.out H5.out.bel hg).cell 25
 go_wp2_with fail
 clear c25
 go_loopg [19] v.lm.length (fun gh ix wr => ∃ (j : Nat) (V0 : Value), j + gh = v.lm.length ∧ ix = .int .i64 j ∧ Hid (RO w.heap.size wA.heap.size w (rtF a v V0 (.slice none 0 0) (.slice none 0 0) ((v.lm.take j).map plOf) [] []).C [rowE 94 2 PList.C V0 ((v.lm.take j).map plOf), rowE 99 2 RMap.C (.slice none 0 0) [], rowE 104 2 AList.C (.slice none 0 0) []] wr))
 case atStart => exact ⟨0, .slice none 0 0, by omega, rfl, H5⟩
 case round =>
  obtain ⟨j, V0, hj, rfl, HR⟩ := hrel
  by_cases hjl : j < v.lm.length
  case pos =>
   obtain ⟨g', o', c'', e', -, hg', R0⟩ := HS0.out.elem (n := 3) (by decide) (fun _ => rfl) hjl
   rw [EV0.out] at e'
   injection e' with e1 e2 e3
   subst e1 e3
   have r1 := hid (zAg R0 HR.out.bel hg')
   obtain ⟨m, hm⟩ : ∃ m, m = v.lm[j] := ⟨_, rfl⟩
   rw [← hm] at r1
   have HM := hid hm
   clear hm R0 e2
   have hjz : (j : Int) < (v.lm.length : Int) := by omega
   have hmx := HM1.out
   go_upto_region 5 with (first | (refine zAa rfl 135 _ rfl rfl r1.out Tryz.rowLPRule Tryz.sizeLPRule ?_) | (refine zAd rfl 135 _ _ rfl rfl rfl (HasC.new wr _ _) rfl Tryz.sizeLPRule (Lm.one m) ?_; intro w6 hz1 hz2))
   have H6 := hid (HR.out.keep (zAn hz2))
   have X6 := hid hz1
   clear hz1 hz2 r1 HR
   generalize wr.heap.size = gy at X6 ⊢
   have x0 : w6.cell? ⟨gy, 0, none⟩ = .some (.string (str m.name)) := X6.out.cell 0
   have hmem : m ∈ v.lm := by rw [HM.out]; exact List.getElem_mem _
   have hoI : OwnE w B 96 5 PRule.C m.iv m.items := HOW.out.own' (AlR_mem.1 m hmem)
   obtain ⟨Ai, ci, hiv, -⟩ := hoI.slv
   have HX : Hid (plOf m = ⟨m.name, .slice Ai m.items.length ci, m.items⟩) := hid (by unfold plOf; rw [hiv])
   have x2 : w6.cell? ⟨gy, 2, none⟩ = .some (.slice Ai m.items.length ci) := by rw [← hiv]; exact X6.out.cell 2
   clear hoI hmem hiv
   have d3 : w6.cell? ⟨wA.heap.size, 3, none⟩ = .some V0 := H6.out.has.cell 3
   have HO1 : OwnE w6 (wA.heap.size + 1) 94 2 PList.C V0 ((v.lm.take j).map plOf) := H6.out.own.own' (by simp)
   obtain ⟨A5, m5, c5, w7, hr, ho5, hg5, hn5⟩ := HO1.push (P := Tryz.prog) (zBf H6.out.has) Tryz.underlying23 Tryz.infoOPList (by decide) (fun _ => rfl) (⟨m.name, .slice Ai m.items.length ci, m.items⟩ : PList) (PList.one _ rfl) (by have := HM1.out; simp only [List.length_map, List.length_take]; omega) (by decide) 23
   have R7 := RO.row (pre := []) (post := [rowE 99 2 RMap.C (.slice none 0 0) [], rowE 104 2 AList.C (.slice none 0 0) []]) (r' := rowE 94 2 PList.C (.slice A5 m5 c5) ((v.lm.take j).map plOf ++ [(⟨m.name, .slice Ai m.items.length ci, m.items⟩ : PList)])) H6.out hg5 ho5 hn5
   rw [show (v.lm.take j).map plOf ++ [(⟨m.name, .slice Ai m.items.length ci, m.items⟩ : PList)] = (v.lm.take (j + 1)).map plOf from by rw [take_snoc hjl, List.map_append, ← HM.out, ← HX.out]; rfl] at R7
   have H7 := hid R7
   have HRun := hid hr
   have d7 : w7.cell? ⟨wA.heap.size, 3, none⟩ = .some V0 := R7.has.cell 3
   have fz := R7.has.frz
   clear R7 hr ho5 hg5 hn5 HO1
   go_wp2_with (at_builtin; refine Lib.wpList_append_run _ rfl _ _ _ _ rfl _ _ rfl rfl _ _ HRun.out ?_)
   go_roundg (v.lm.length - (j + 1))
   case measure => omega
   case rel => exact ⟨j + 1, .slice A5 m5 c5, by omega, by go_num, hid (H7.out.put (cs' := (rtF a v (.slice A5 m5 c5) (.slice none 0 0) (.slice none 0 0) ((v.lm.take (j + 1)).map plOf) [] []).C) 3 (.slice A5 m5 c5) rfl)⟩
  have R9 := HR.out
  rw [List.take_of_length_le (by omega)] at R9
  have H90 := hid R9
  have hjz : ¬ ((j : Int) < (v.lm.length : Int)) := by omega
  clear R9 HR hjl hj
  generalize wr = w90 at H90 ⊢
  have c26 : w90.cell? ⟨g, 26, none⟩ = .some (.slice A1 v.mm.length c1) := by rw [← EV1.out]; exact (HasC.below H1.out H90.out.bel hg).cell 26
  go_wp2_with fail
  clear c26
  go_loopg [39] v.mm.length (fun gh ix wr => ∃ (j : Nat) (V1 : Value), j + gh = v.mm.length ∧ ix = .int .i64 j ∧ Hid (RO w.heap.size wA.heap.size w (rtF a v V0 V1 (.slice none 0 0) (v.lm.map plOf) ((v.mm.take j).map rmOf) []).C [rowE 94 2 PList.C V0 (v.lm.map plOf), rowE 99 2 RMap.C V1 ((v.mm.take j).map rmOf), rowE 104 2 AList.C (.slice none 0 0) []] wr))
  case atStart => exact ⟨0, .slice none 0 0, by omega, rfl, H90⟩
  case round =>
   obtain ⟨j, V1, hj, rfl, HR⟩ := hrel
   by_cases hjl : j < v.mm.length
   case pos =>
    obtain ⟨g', o', c'', e', -, hg', R0⟩ := HS1.out.elem (n := 3) (by decide) (fun _ => rfl) hjl
    rw [EV1.out] at e'
    injection e' with e1 e2 e3
    subst e1 e3
    have r1 := hid (zAg R0 HR.out.bel hg')
    obtain ⟨m, hm⟩ : ∃ m, m = v.mm[j] := ⟨_, rfl⟩
    rw [← hm] at r1
    have HM := hid hm
    clear hm R0 e2
    have hjz : (j : Int) < (v.mm.length : Int) := by omega
    have hmx := HM2.out
    go_upto_region 10 with (first | (refine zAa rfl 137 _ rfl rfl r1.out Tryz.rowLCl Tryz.sizeLCl ?_) | (refine zAd rfl 137 _ _ rfl rfl rfl (HasC.new wr _ _) rfl Tryz.sizeLCl (Lm.one m) ?_; intro w6 hz1 hz2))
    have H6 := hid (HR.out.keep (zAn hz2))
    have X6 := hid hz1
    clear hz1 hz2 r1 HR
    generalize wr.heap.size = gy at X6 ⊢
    have x0 : w6.cell? ⟨gy, 0, none⟩ = .some (.string (str m.name)) := X6.out.cell 0
    have hmem : m ∈ v.mm := by rw [HM.out]; exact List.getElem_mem _
    have hoI : OwnE w B 101 7 Cl.C m.iv m.items := HOW.out.own' (AlR_mem.2.1 m hmem)
    obtain ⟨Ai, ci, hiv, -⟩ := hoI.slv
    have HX : Hid (rmOf m = ⟨m.name, .slice Ai m.items.length ci, m.items⟩) := hid (by unfold rmOf; rw [hiv])
    have x2 : w6.cell? ⟨gy, 2, none⟩ = .some (.slice Ai m.items.length ci) := by rw [← hiv]; exact X6.out.cell 2
    clear hoI hmem hiv
    have d3 : w6.cell? ⟨wA.heap.size, 4, none⟩ = .some V1 := H6.out.has.cell 4
    have HO1 : OwnE w6 (wA.heap.size + 1) 99 2 RMap.C V1 ((v.mm.take j).map rmOf) := H6.out.own.own' (by simp)
    obtain ⟨A5, m5, c5, w7, hr, ho5, hg5, hn5⟩ := HO1.push (P := Tryz.prog) (zBf H6.out.has) Tryz.underlying24 Tryz.infoORMap (by decide) (fun _ => rfl) (⟨m.name, .slice Ai m.items.length ci, m.items⟩ : RMap) (RMap.one _ rfl) (by have := HM2.out; simp only [List.length_map, List.length_take]; omega) (by decide) 24
    have R7 := RO.row (pre := [rowE 94 2 PList.C V0 (v.lm.map plOf)]) (post := [rowE 104 2 AList.C (.slice none 0 0) []]) (r' := rowE 99 2 RMap.C (.slice A5 m5 c5) ((v.mm.take j).map rmOf ++ [(⟨m.name, .slice Ai m.items.length ci, m.items⟩ : RMap)])) H6.out hg5 ho5 hn5
    rw [show (v.mm.take j).map rmOf ++ [(⟨m.name, .slice Ai m.items.length ci, m.items⟩ : RMap)] = (v.mm.take (j + 1)).map rmOf from by rw [take_snoc hjl, List.map_append, ← HM.out, ← HX.out]; rfl] at R7
    have H7 := hid R7
    have HRun := hid hr
    have d7 : w7.cell? ⟨wA.heap.size, 4, none⟩ = .some V1 := R7.has.cell 4
    have fz := R7.has.frz
    clear R7 hr ho5 hg5 hn5 HO1
    go_wp2_with (at_builtin; refine Lib.wpList_append_run _ rfl _ _ _ _ rfl _ _ rfl rfl _ _ HRun.out ?_)
    go_roundg (v.mm.length - (j + 1))
    case measure => omega
    case rel => exact ⟨j + 1, .slice A5 m5 c5, by omega, by go_num, hid (H7.out.put (cs' := (rtF a v V0 (.slice A5 m5 c5) (.slice none 0 0) (v.lm.map plOf) ((v.mm.take (j + 1)).map rmOf) []).C) 4 (.slice A5 m5 c5) rfl)⟩
   have R9 := HR.out
   rw [List.take_of_length_le (by omega)] at R9
   have H91 := hid R9
   have hjz : ¬ ((j : Int) < (v.mm.length : Int)) := by omega
   clear R9 HR hjl hj
   generalize wr = w91 at H91 ⊢
   have c27 : w91.cell? ⟨g, 27, none⟩ = .some (.slice A2 v.am.length c2) := by rw [← EV2.out]; exact (HasC.below H1.out H91.out.bel hg).cell 27
   go_wp2_with fail
   clear c27
   go_loopg [59] v.am.length (fun gh ix wr => ∃ (j : Nat) (V2 : Value), j + gh = v.am.length ∧ ix = .int .i64 j ∧ Hid (RO w.heap.size wA.heap.size w (rtF a v V0 V1 V2 (v.lm.map plOf) (v.mm.map rmOf) ((v.am.take j).map alOf)).C [rowE 94 2 PList.C V0 (v.lm.map plOf), rowE 99 2 RMap.C V1 (v.mm.map rmOf), rowE 104 2 AList.C V2 ((v.am.take j).map alOf)] wr))
   case atStart => exact ⟨0, .slice none 0 0, by omega, rfl, H91⟩
   case round =>
    obtain ⟨j, V2, hj, rfl, HR⟩ := hrel
    by_cases hjl : j < v.am.length
    case pos =>
     obtain ⟨g', o', c'', e', -, hg', R0⟩ := HS2.out.elem (n := 3) (by decide) (fun _ => rfl) hjl
     rw [EV2.out] at e'
     injection e' with e1 e2 e3
     subst e1 e3
     have r1 := hid (zAg R0 HR.out.bel hg')
     obtain ⟨m, hm⟩ : ∃ m, m = v.am[j] := ⟨_, rfl⟩
     rw [← hm] at r1
     have HM := hid hm
     clear hm R0 e2
     have hjz : (j : Int) < (v.am.length : Int) := by omega
     have hmx := HM3.out
     go_upto_region 15 with (first | (refine zAa rfl 139 _ rfl rfl r1.out Tryz.rowLRu Tryz.sizeLRu ?_) | (refine zAd rfl 139 _ _ rfl rfl rfl (HasC.new wr _ _) rfl Tryz.sizeLRu (Lm.one m) ?_; intro w6 hz1 hz2))
     have H6 := hid (HR.out.keep (zAn hz2))
     have X6 := hid hz1
     clear hz1 hz2 r1 HR
     generalize wr.heap.size = gy at X6 ⊢
     have x0 : w6.cell? ⟨gy, 0, none⟩ = .some (.string (str m.name)) := X6.out.cell 0
     have hmem : m ∈ v.am := by rw [HM.out]; exact List.getElem_mem _
     have hoI : OwnE w B 110 10 Ru.C m.iv m.items := HOW.out.own' (AlR_mem.2.2 m hmem)
     obtain ⟨Ai, ci, hiv, -⟩ := hoI.slv
     have HX : Hid (alOf m = ⟨m.name, .slice Ai m.items.length ci, m.items⟩) := hid (by unfold alOf; rw [hiv])
     have x2 : w6.cell? ⟨gy, 2, none⟩ = .some (.slice Ai m.items.length ci) := by rw [← hiv]; exact X6.out.cell 2
     clear hoI hmem hiv
     have d3 : w6.cell? ⟨wA.heap.size, 5, none⟩ = .some V2 := H6.out.has.cell 5
     have HO1 : OwnE w6 (wA.heap.size + 1) 104 2 AList.C V2 ((v.am.take j).map alOf) := H6.out.own.own' (by simp)
     obtain ⟨A5, m5, c5, w7, hr, ho5, hg5, hn5⟩ := HO1.push (P := Tryz.prog) (zBf H6.out.has) Tryz.underlying25 Tryz.infoOAList (by decide) (fun _ => rfl) (⟨m.name, .slice Ai m.items.length ci, m.items⟩ : AList) (AList.one _ rfl) (by have := HM3.out; simp only [List.length_map, List.length_take]; omega) (by decide) 25
     have R7 := RO.row (pre := [rowE 94 2 PList.C V0 (v.lm.map plOf), rowE 99 2 RMap.C V1 (v.mm.map rmOf)]) (post := []) (r' := rowE 104 2 AList.C (.slice A5 m5 c5) ((v.am.take j).map alOf ++ [(⟨m.name, .slice Ai m.items.length ci, m.items⟩ : AList)])) H6.out hg5 ho5 hn5
     rw [show (v.am.take j).map alOf ++ [(⟨m.name, .slice Ai m.items.length ci, m.items⟩ : AList)] = (v.am.take (j + 1)).map alOf from by rw [take_snoc hjl, List.map_append, ← HM.out, ← HX.out]; rfl] at R7
     have H7 := hid R7
     have HRun := hid hr
     have d7 : w7.cell? ⟨wA.heap.size, 5, none⟩ = .some V2 := R7.has.cell 5
     have fz := R7.has.frz
     clear R7 hr ho5 hg5 hn5 HO1
     go_wp2_with (at_builtin; refine Lib.wpList_append_run _ rfl _ _ _ _ rfl _ _ rfl rfl _ _ HRun.out ?_)
     go_roundg (v.am.length - (j + 1))
     case measure => omega
     case rel => exact ⟨j + 1, .slice A5 m5 c5, by omega, by go_num, hid (H7.out.put (cs' := (rtF a v V0 V1 (.slice A5 m5 c5) (v.lm.map plOf) (v.mm.map rmOf) ((v.am.take (j + 1)).map alOf)).C) 5 (.slice A5 m5 c5) rfl)⟩
    have R9 := HR.out
    rw [List.take_of_length_le (by omega)] at R9
    have H92 := hid R9
    have hjz : ¬ ((j : Int) < (v.am.length : Int)) := by omega
    clear R9 HR hjl hj
    have HAT := hid (rtF_at HOW.out H92.out.own H92.out.bel)
    have HPL := hid (rtF_plain (L := V0) (M := V1) (A := V2) HL1.out HL2.out HL3.out)
    go_wp2_with (first | (refine zAa rfl _ _ rfl rfl H92.out.has.range Tryz.rowRt Tryz.sizeRt ?_) | (refine zAd rfl 41 _ _ rfl rfl rfl H92.out.res rfl Tryz.sizeRt HAT.out.one ?_; intro wz hz1 hz2))
    refine bodyPost_ret (results_cell rfl rfl (hz1.loadR Tryz.rowRt Tryz.sizeRt)) rfl ?_
    have hb : Below w.heap.size w wz := H92.out.bel.trans (zAu hz2 (Nat.le_refl _) H92.out.bel.size)
    have ho1 : OwnAll wz (wA.heap.size + 1) _ := H92.out.own.frame hz2 (fun k hk hm => by have := (OwnAll.lt H92.out.own hm).2; have := H92.out.lt; have := Option.some.inj hk; omega)
    have ho2 := OwnAll.below HOW.out hb
    have hlo := H92.out.lo
    have hlt := H92.out.lt
    refine ⟨_, rfl, hb, HPL.out, fun ks w2 hk hf => rtF_at (OwnAll.fr ho2 hf (fun x hx hm => ?_)) (OwnAll.fr ho1 hf (fun x hx hm => ?_)) (Below.refl _ _)⟩
    ·have h1 := (OwnAll.lt ho2 hx).2
     have h2 := hk _ hm
     omega
    ·have h1 := (OwnAll.lt ho1 hx).2
     have h2 := hk _ hm
     omega
theorem own_below {w w' : World} {base : Nat} {e : TypeId} {size n : Nat} {v : Value} {xs : List Value} (h : w.ownsRow base e size v n xs) (hb : Below w.heap.size w w') : w'.ownsRow base e size v n xs :=
 h.kept (row := none) ⟨hb.os, hb.tape, hb.output, hb.size, fun k hk _ => hb.block k hk⟩ (by cases hv : v.ownBlock <;> simp)
def SlN (w : World) (row : Option Nat) (u : Value) (ls : List (List UInt8)) : Prop :=
 ∃ A c, u = .slice A ls.length c ∧ ls.length ≤ c ∧ ls.length ≤ maxLen ∧ (A = none → c = 0) ∧ (0 < ls.length → ∃ g o, A = some ⟨g, o, none⟩ ∧ g < w.heap.size ∧ row ≠ some g ∧ ∀ (j : Nat) t, ls[j]? = some t → w.cell? ⟨g, o + j, none⟩ = some (strV t))
theorem SlN.grown {w w' : World} {row row' : Option Nat} {u : Value} {ls : List (List UInt8)} (h : SlN w row u ls) (hg : w.grownBy w' row) (hr : row' = row ∨ ∃ k, w.heap.size ≤ k ∧ row' = some k) : SlN w' row' u ls := by
 obtain ⟨A, c, rfl, h1, h2, h3, h4⟩ := h
 refine ⟨A, c, rfl, h1, h2, h3, fun h0 => ?_⟩
 obtain ⟨g, o, rfl, hgl, hne, hc⟩ := h4 h0
 refine ⟨g, o, rfl, Nat.lt_of_lt_of_le hgl hg.size, ?_, fun j t ht => hg.cell (hc j t ht) (fun e => hne e.symm)⟩
 rcases hr with rfl | ⟨k, hk, rfl⟩
 ·exact hne
 ·intro e; injection e with e; omega
theorem SlN.below {w w' : World} {row : Option Nat} {u : Value} {ls : List (List UInt8)} (h : SlN w row u ls) (hb : Below w.heap.size w w') : SlN w' row u ls := by
 obtain ⟨A, c, rfl, h1, h2, h3, h4⟩ := h
 refine ⟨A, c, rfl, h1, h2, h3, fun h0 => ?_⟩
 obtain ⟨g, o, rfl, hgl, hne, hc⟩ := h4 h0
 exact ⟨g, o, rfl, Nat.lt_of_lt_of_le hgl hb.size, hne, fun j t ht => (hb.cell (p := ⟨g, o + j, none⟩) hgl).trans (hc j t ht)⟩
theorem SlN.of_own {w : World} {base : Nat} {row : Option Nat} {v : Value} {ls : List (List UInt8)} (h : w.ownsRow base 9 1 v ls.length (ls.map strV)) (hr : ∀ k, row = some k → k < base) : SlN w row v ls := by
 obtain ⟨A, c, e1, h0, _, hA, h2⟩ := Slc.of_own h
 rcases h.2 with ⟨rfl, h0⟩ | ⟨g, cap, cur, rfl, hb, _, hn, _⟩
 ·exact ⟨none, 0, by rw [h0], by omega, by simp [h0], fun _ => rfl, fun h => by omega⟩
 ·refine ⟨_, cap, rfl, hn, h0, fun h => (by cases h), fun h3 => ?_⟩
  injection e1 with e1 e2 e3
  subst e1
  obtain ⟨g', o', e2, hg, hc⟩ := h2 h3
  injection e2 with e2
  injection e2 with e3 e4
  subst e3 e4
  refine ⟨g, 0, rfl, hg, fun e => ?_, fun j t ht => hc j _ (by rw [List.getElem?_map, ht]; rfl)⟩
  have := hr g e
  omega
theorem linesGo_short : ∀ (l cur : List UInt8) (x : List UInt8), x ∈ zAp cur l → x.length ≤ cur.length + l.length := by
 intro l
 induction l with
 | nil =>
  intro cur x h
  simp only [zAp, flush] at h
  split at h
  ·cases h
  ·simp at h; subst h; simp
 | cons c r ih =>
  intro cur x h
  simp only [zAp] at h
  split at h
  ·rcases List.mem_cons.1 h with h | h
   ·subst h; simp
   ·have := ih [] x h; simp at this ⊢; omega
  ·have := ih _ x h; simp at this ⊢; omega
theorem lines_short {t : List UInt8} (h : zAy t = 0) : (zBy t).length ≤ 65537 ∧ ∀ l ∈ zBy t, l.length ≤ 65536 := by
 have hl : t.length ≤ 65536 := by
  unfold zAy at h
  split at h
  ·cases h
  ·omega
 refine ⟨by have := linesGo_len t []; unfold zBy; omega, fun l hm => ?_⟩
 have := linesGo_short t [] l hm
 simp at this; omega
def LnV (w : World) (B : Nat) (v : Value) (ls : List (List (List UInt8))) : Prop :=
 ∃ A c, v = .slice A ls.length c ∧ ls.length ≤ c ∧ ls.length ≤ 1000000000 ∧ ∀ (j : Nat) fs, ls[j]? = some fs → ∃ g o u, A = some ⟨g, o, none⟩ ∧ g < B ∧ w.cell? ⟨g, o + j, none⟩ = some u ∧ FsV w B u fs
theorem LnV.below {w w' : World} {B : Nat} {v : Value} {ls : List (List (List UInt8))} (h : LnV w B v ls) (hb : Below B w w') : LnV w' B v ls := by
 obtain ⟨A, c, e, h1, h2, h3⟩ := h
 refine ⟨A, c, e, h1, h2, fun j fs hj => ?_⟩
 obtain ⟨g, o, u, e, hg, hc, hf⟩ := h3 j fs hj
 exact ⟨g, o, u, e, hg, (hb.cell (p := ⟨g, o + j, none⟩) hg).trans hc, hf.below hb⟩
theorem SlN.fsv {w : World} {row : Option Nat} {u : Value} {fs : List (List UInt8)} (h : SlN w row u fs) : FsV w w.heap.size u fs := by
 obtain ⟨A, c, rfl, h1, h2, h3, h4⟩ := h
 refine ⟨A, c, rfl, h1, A, c, rfl, h2, by simp, h3, fun h0 => ?_⟩
 obtain ⟨g, o, rfl, hg, _, hc⟩ := h4 h0
 refine ⟨g, o, rfl, hg, fun j u hu => ?_⟩
 rw [List.getElem?_map] at hu
 cases hq : fs[j]? with
 | none => rw [hq] at hu; cases hu
 | some t => rw [hq] at hu; injection hu with hu; subst hu; exact hc j t hq
def SplitP (l : List UInt8) (w : World) (e : Ending) (w' : World) : Prop :=
 ∃ v, e = .returned (.tuple #[v, .int .i64 (zAy l)]) ∧ Below w.heap.size w w' ∧ (zAy l = 0 → LnV w' w'.heap.size v ((zBy l).map (zCh 33)))
theorem Tryz.infoFs : (Tryz.prog.info? 50).map (fun i => (i.zero, i.size, i.bytes)) = some (some (.slice none 0 0), 1, 24) := by kernel_rfl
theorem split_any (s : ByteArray) (w : World) : Calls Tryz.prog 14 #[.string s] w (SplitP (bytes s) w) := by
 obtain ⟨i0, hi0, hz0, hz1, hz2⟩ := info_parts Tryz.infoFs
 have Hi0 := hid hi0
 have Hz0 := hid hz0
 have Hz1 := hid hz1
 have Hz2 := hid hz2
 clear hi0 hz0 hz1 hz2
 go_enter Tryz.func14, Tryz.ntmps14
 go_wp2_with fail
 refine (lines_any s w).mono ?_
 rintro e w1 ⟨v1, rfl, ho1, hb1⟩
 generalize bytes s = l at *
 cases he : (zAy l != 0) with
 | true =>
  have hne : ¬ zAy l = 0 := by simpa using he
  have HNE := hid hne
  have HB := hid hb1
  clear hne ho1
  go_wp2_with fail
  go_ret2
  exact ⟨_, rfl, HB.out, fun h => absurd h HNE.out⟩
 | false =>
  have h0 : zAy l = 0 := by simpa using he
  have hlr : zGa l = zBy l := by unfold zGa; rw [if_pos h0]
  have hsh := lines_short h0
  rw [hlr] at ho1
  have HSH := hid hsh.2
  have hn := hsh.1
  have H0 := hid h0
  obtain ⟨L, hL⟩ : ∃ L, L = zBy l := ⟨_, rfl⟩
  rw [← hL] at ho1 hn HSH
  have HL := hid hL
  have HS := hid (Slc.of_own ho1)
  obtain ⟨A1, c1, e1⟩ := slc_form (Slc.of_own ho1)
  subst e1
  have HB := hid hb1
  clear hlr hsh h0 ho1 hL hb1
  go_wp2_with (first | (at_make; refine wpList_make_full _ rfl _ _ 56 rfl w1.heap.size 50 i0 _ 1 Tryz.underlying56 Hi0.out Hz0.out Hz1.out .i64 .i64 _ _ L.length rfl rfl rfl rfl (by rw [Hz2.out]; omega) (by unfold maxLen; omega) (Nat.le_refl _) ?_; intro w2 hown hgr))
  have HO := hid hown
  have hxl := hown.1
  have HBW := hid ((Below.refl w1.heap.size w1).grown hgr (Nat.le_refl _) (fun k h => by cases h))
  clear hown hgr
  generalize (madeCells _ (L.length * 1)).toList = xs0 at HO hxl
  go_loopg [22] L.length (fun gh ix wr => ∃ (j : Nat) (us : List Value), j + gh = L.length ∧ ix = .int .i64 j ∧ us.length = L.length * 1 ∧ Hid (wr.ownsRow w1.heap.size 50 1 (.slice (some ⟨w1.heap.size, 0, none⟩) L.length L.length) L.length us) ∧ Hid (∀ (i : Nat) u t, i < j → us[i]? = some u → L[i]? = some t → SlN wr (some w1.heap.size) u (zCh 33 t)) ∧ Hid (Below w1.heap.size w1 wr))
  case atStart => exact ⟨0, xs0, by omega, rfl, hxl, HO, hid (fun i u t h => by omega), HBW⟩
  case round =>
   clear HO hxl HBW
   obtain ⟨j, us, hj, rfl, hul, HO, HU, HBr⟩ := hrel
   by_cases hjl : j < L.length
   ·obtain ⟨g, o, eA, hg, cx⟩ := slc_at (HS.out.below HBr.out) rfl hjl
    have HT := hid (List.getElem?_eq_getElem hjl)
    have hx := HSH.out _ (List.getElem_mem hjl)
    generalize L[j] = x at cx HT hx
    have HF := hid (fun W => fields_any (str x) 33 W (by rw [zEa]; omega))
    unfold strV at cx
    subst eA
    have HUL := hid hul
    have hz4 := HBr.out.size
    have hlt4 : w1.heap.size < wr.heap.size := (HO.out.lt _ rfl).2
    clear hul hx
    go_wp2_with fail
    refine (HF.out _).mono ?_
    rintro e w4 ⟨v4, rfl, ho4, hb5⟩
    rw [zBa] at ho4
    have HO4 := hid ho4
    have HB5 := hid hb5
    have hown5 := own_below HO.out hb5
    obtain ⟨y, hy⟩ : ∃ y, us[j]? = some y := ⟨us[j]'(by rw [HUL.out]; omega), List.getElem?_eq_getElem _⟩
    have k1 : w4.cell? ⟨w1.heap.size, j, none⟩ = some y := (hown5.cellAt j (by omega)).trans hy
    have k2 : w4.frozen? ⟨w1.heap.size, j, none⟩ = false := hown5.frozenAt j
    have HO6 := hid (hown5.stored j v4)
    obtain ⟨A4, c4, e4⟩ := slc_form (Slc.of_own ho4)
    subst e4
    clear hown5 hy ho4 hb5
    go_wp2_with fail
    go_roundg (L.length - (j + 1))
    case measure => omega
    case rel =>
     have hn4 : SlN w4 (some w1.heap.size) (.slice A4 (zCh 33 x).length c4) (zCh 33 x) := SlN.of_own HO4.out (fun k e => by have := Option.some.inj e; omega)
     have hs4 := zBj w4 w1.heap.size j (.slice A4 (zCh 33 x).length c4)
     exact ⟨j + 1, us.set j (.slice A4 (zCh 33 x).length c4), by omega, by go_num, by rw [List.length_set]; exact HUL.out, hid HO6.out.1, hid (fun i u t hi hu ht => by
      rcases Nat.lt_or_ge i j with h | h
      ·rw [List.getElem?_set_ne (by omega)] at hu
       exact ((HU.out i u t h hu ht).below HB5.out).grown hs4 (.inl rfl)
      ·have e : i = j := by omega
       subst e
       rw [List.getElem?_set_self (by rw [HUL.out]; omega)] at hu
       injection hu with hu
       subst hu
       rw [HT.out] at ht
       injection ht with ht
       subst ht
       exact hn4.grown hs4 (.inl rfl)), hid ((HBr.out.trans (HB5.out.mono hz4)).setCell (Nat.le_refl _) _)⟩
   ·have hjz : ¬ ((j : Int) < (L.length : Int)) := by omega
    have hje : j = L.length := by omega
    have HF : Hid (LnV wr wr.heap.size (.slice (some ⟨w1.heap.size, 0, none⟩) L.length L.length) (L.map (zCh 33))) := hid (by
     refine ⟨some ⟨w1.heap.size, 0, none⟩, L.length, by rw [List.length_map], by rw [List.length_map]; exact Nat.le_refl _, by rw [List.length_map]; omega, fun i fs hi => ?_⟩
     rw [List.getElem?_map] at hi
     cases hq : L[i]? with
     | none => rw [hq] at hi; cases hi
     | some t =>
      rw [hq] at hi
      injection hi with hi
      subst hi
      have hil : i < L.length := (List.getElem?_eq_some_iff.1 hq).1
      have hiu : i < us.length := by rw [hul]; omega
      refine ⟨w1.heap.size, 0, us[i], rfl, (HO.out.lt _ rfl).2, ?_, (HU.out i us[i] t (by omega) (List.getElem?_eq_getElem hiu) hq).fsv⟩
      have := (HO.out.cellAt i (by omega)).trans (List.getElem?_eq_getElem hiu)
      simpa using this)
    clear hje hul HO HU
    go_wp2_with fail
    go_ret2
    exact ⟨.slice (some ⟨w1.heap.size, 0, none⟩) L.length L.length, by rw [H0.out]; rfl, HB.out.trans (HBr.out.mono HB.out.size), fun _ => by rw [← HL.out]; exact HF.out⟩
def zDk (skip : Int) : List (List (List UInt8)) → Nat → Al → Al × Option Nat
 | [], _, a => (a, none)
 | fs :: r, k, a => if (k : Int) = skip ∨ fs = [] then zDk skip r (k + 1) a else if (lineS fs a).2 then zDk skip r (k + 1) (lineS fs a).1 else (a, some (k + 1))
theorem zGo : ∀ (ls : List (List (List UInt8))) (k : Nat) (a : Al), zDk (-1) ls k a = zBt ls k a
 | [], _, _ => rfl
 | [] :: r, k, a => by
  unfold zDk zBt
  rw [if_pos (.inr rfl), zGo r]
 | (f :: fs) :: r, k, a => by
  have h : ¬ ((k : Int) = -1 ∨ f :: fs = []) := fun h => h.elim (fun h => by omega) (fun h => by cases h)
  unfold zDk
  rw [if_neg h]
  show _ = (if (lineS (f :: fs) a).2 then zBt r (k + 1) (lineS (f :: fs) a).1 else (a, some (k + 1)))
  rw [zGo r]
theorem linesK_at {skip : Int} {ls : List (List (List UInt8))} {j : Nat} (hj : j < ls.length) (a : Al) :
  zDk skip (ls.drop j) j a = if (j : Int) = skip ∨ ls[j] = [] then zDk skip (ls.drop (j + 1)) (j + 1) a else if (lineS ls[j] a).2 then zDk skip (ls.drop (j + 1)) (j + 1) (lineS ls[j] a).1 else (a, some (j + 1)) := by
 rw [List.drop_eq_getElem_cons hj]
 rfl
def rt0 : Rt := alRt Al.zero
theorem rt0_C : rt0.C = rtE := rfl
theorem zJo : rtE.all (·.oneCell') = true := rt0_C ▸ rt0.one rfl rfl rfl rfl rfl rfl rfl rfl rfl rfl rfl rfl rfl rfl
def ReadR (E : Rt → Int) (skip : Int) (ls : List (List (List UInt8))) (B : Nat) (e : Ending) (w' : World) : Prop :=
 match zDk skip ls 0 Al.zero with
 | (_, some n) => e = .returned (.tuple #[.agg rtE, .int .i64 (n : Int), .int .i64 2])
 | (a, none) => ∃ r : Rt, r.plain = alRt a ∧ (∀ (ks : List Nat) w'', (∀ k ∈ ks, k < B) → Fr ks w' w'' → r.at w'' w''.heap.size) ∧ (E r = 0 → e = .returned (.tuple #[.agg r.C, .int .i64 (ls.length : Int), .int .i64 0])) ∧ (E r ≠ 0 → e = .returned (.tuple #[.agg rtE, .int .i64 (ls.length : Int), .int .i64 (E r)]))
def ReadP (E : Rt → Int) (skip : Int) (ls : List (List (List UInt8))) (w : World) (e : Ending) (w' : World) : Prop := Below w.heap.size w w' ∧ ReadR E skip ls w.heap.size e w'
theorem zDg {P : Program} {fn : Func} {tmps : Array Value} {w : World} {k j i : Nat} {T : TypeId} {g : Addr} {v u t : Value} (hf : fn.results = #[.cell k T, .tmp j, .tmp i]) (hk : tmps.getD k undef = .pointer (some g))
  (hj : tmps.getD j undef = u) (hi : tmps.getD i undef = t) (hl : (loadVar T g).run P w = .ok v w) : (results fn tmps).run P w = .ok (.tuple #[v, u, t]) w := by
 rw [Array.getD_eq_getD_getElem?] at hk hj hi
 unfold results
 simp [hf, hk, hj, hi, asAddr, hl]
theorem LnV.at {w : World} {B : Nat} {v : Value} {ls : List (List (List UInt8))} (h : LnV w B v ls) {j : Nat} (hj : j < ls.length) : ∃ g o c u, v = .slice (some ⟨g, o, none⟩) ls.length c ∧ w.cell? ⟨g, o + j, none⟩ = some u ∧ FsV w B u ls[j] := by
 obtain ⟨A, c, rfl, h1, h2, h3⟩ := h
 obtain ⟨g, o, u, rfl, hg, hc, hf⟩ := h3 j ls[j] (List.getElem?_eq_getElem hj)
 exact ⟨g, o, c, u, rfl, hc, hf⟩
def Av.zero : Av := ⟨.slice none 0 0, .slice none 0 0, .slice none 0 0, .slice none 0 0, .slice none 0 0, .slice none 0 0, .slice none 0 0, .slice none 0 0, .slice none 0 0, .slice none 0 0, .slice none 0 0, .slice none 0 0, .slice none 0 0, .slice none 0 0, .pointer none, .pointer none, [], [], []⟩
theorem RZ.zero {w w' : World} (hh : HasC 88 w.heap.size (AlC Al.zero Av.zero) w') (hB : Below w.heap.size w w') : RZ w.heap.size w.heap.size w Al.zero w' := by
 have hr : ∀ r ∈ AlR Al.zero Av.zero, r.own w' w.heap.size ∧ r.v.ownBlock = none := by
  intro r hr
  simp only [AlR, rowsP, rowsM, rowsA, zAr, Al.zero, Av.zero, List.flatMap_nil, List.mem_cons, List.mem_append, List.not_mem_nil, or_false] at hr
  rcases hr with rfl | rfl | rfl | rfl | rfl | rfl | rfl | rfl | rfl | rfl | rfl | (rfl | rfl) | rfl
  ·exact ⟨OwnE.nil (cells := If.C), rfl⟩
  ·exact ⟨OwnE.nil (cells := Tr.C), rfl⟩
  ·exact ⟨OwnE.nil (cells := Sr.C), rfl⟩
  ·exact ⟨OwnE.nil (cells := AR.C), rfl⟩
  ·exact ⟨OwnE.nil (cells := Rd.C), rfl⟩
  ·exact ⟨OwnE.nil (cells := Rd.C), rfl⟩
  ·exact ⟨OwnE.nil (cells := Nb.C), rfl⟩
  ·exact ⟨OwnE.nil (cells := Pf.C), rfl⟩
  ·exact ⟨OwnE.nil (cells := Ag.C), rfl⟩
  ·exact ⟨OwnE.nil (cells := Cd.C), rfl⟩
  ·exact ⟨OwnE.nil (cells := Rd.C), rfl⟩
  ·exact ⟨OwnE.nil (cells := Lm.C (α := PRule)), rfl⟩
  ·exact ⟨OwnE.nil (cells := Lm.C (α := Cl)), rfl⟩
  ·exact ⟨OwnE.nil (cells := Lm.C (α := Ru)), rfl⟩
 have hbl : blks (AlR Al.zero Av.zero) = [] := by
  unfold blks
  rw [List.filterMap_eq_nil_iff]
  exact fun r h => (hr r h).2
 refine ⟨Av.zero, ⟨hh, ⟨fun r h => (hr r h).1, ?_⟩, hB, by rw [hbl]; exact List.not_mem_nil, Nat.le_refl _, Nat.le_refl _⟩, ⟨rfl, rfl, rfl⟩, fun h => absurd (show (0 : Int) = 1 from h) (by decide), fun h => absurd (show (0 : Int) = 2 from h) (by decide)⟩
 show (blks (AlR Al.zero Av.zero)).Nodup
 rw [hbl]
 exact List.nodup_nil
theorem alRt_fit {k : Nat} {a : Al} (h : AlOk k a) {r : Rt} (hp : r.plain = alRt a) : r.fit := by
 have hL : ∀ x ∈ r.lists, x.fit := fun x hx => by
  have h1 : (⟨x.name, .slice none 0 0, x.rules⟩ : PList) ∈ r.plain.lists := List.mem_map.2 ⟨x, hx, rfl⟩
  rw [hp] at h1
  obtain ⟨l, hl, e⟩ := List.mem_map.1 h1
  injection e with _ _ e
  have h2 := (h.lists.2 l hl).items.2
  rw [e] at h2
  exact h2
 have hM : ∀ x ∈ r.maps, x.fit := fun _ _ => trivial
 have hA : ∀ x ∈ r.acls, x.fit := fun x hx => by
  have h1 : (⟨x.name, .slice none 0 0, x.rules⟩ : AList) ∈ r.plain.acls := List.mem_map.2 ⟨x, hx, rfl⟩
  rw [hp] at h1
  obtain ⟨l, hl, e⟩ := List.mem_map.1 h1
  injection e with _ _ e
  have h2 := (h.acls.2 l hl).items.2
  rw [e] at h2
  exact h2
 have e : ∀ {α : Type} (f : Rt → α), f r.plain = f (alRt a) := fun f => by rw [hp]
 refine ⟨?_, hL, hM, hA, ?_, ?_, ?_, ?_, ?_, ?_, ?_, ?_, ?_, ?_⟩
 ·rw [show r.ifs = a.ifs from e Rt.ifs]; exact h.ifs.2
 ·rw [show r.nat = a.nat from e Rt.nat]; exact h.nat.2
 ·rw [show r.stat = a.stat from e Rt.stat]; exact h.stat.2
 ·rw [show r.ranges = a.ranges from e Rt.ranges]; exact h.ranges.2
 ·rw [show r.lsRed = a.lsRed from e Rt.lsRed]; exact h.lsRed.2
 ·rw [show r.dvRed = a.dvRed from e Rt.dvRed]; exact h.dvRed.2
 ·rw [show r.nb = a.nb from e Rt.nb]; exact h.nb.2
 ·rw [show r.net = a.net from e Rt.net]; exact h.net.2
 ·rw [show r.ag = a.ag from e Rt.ag]; exact h.ag.2
 ·rw [show r.cd = a.cd from e Rt.cd]; exact h.cd.2
 ·rw [show r.pvRed = a.pvRed from e Rt.pvRed]; exact h.pvRed.2
theorem read_gen (E : Rt → Int) (CR : ∀ (r : Rt) (w : World) (B : Nat), r.at w B → B ≤ w.heap.size → r.fit → Calls Tryz.prog 36 #[.agg r.C] w fun e w' => e = .returned (.int .i64 (E r)) ∧ Below w.heap.size w w')
  (v : Value) (ls : List (List (List UInt8))) (skip : Int) (w : World) (h : LnV w w.heap.size v ls) (hn : ls.length ≤ 100000) (hs : ∀ fs ∈ ls, ∀ f ∈ fs, f.length ≤ 1000000000) (he : EnvA w.heap.size w) :
  Calls Tryz.prog 15 #[v, .int .i64 skip] w (ReadP E skip ls w) := by
 obtain ⟨A0, c0, rfl⟩ : ∃ A0 c0, v = .slice A0 ls.length c0 := by obtain ⟨A0, c0, e0, -⟩ := h; exact ⟨A0, c0, e0⟩
 have HLN := hid h
 have HN := hid hn
 have HS := hid hs
 have HE := hid he
 have HCR := hid CR
 clear h hn hs he CR
 go_enter Tryz.func15, Tryz.ntmps15
 go_upto_region 1 with (fail)
 have HRES := hid (HasC.new w 41 rtE)
 have HB1 := hid ((Below.refl w.heap.size w).alloc (Nat.le_refl _) (.cells rtE 41))
 change Code.wp _ _ _ _ (w.alloc (.cells rtE 41))
 generalize w.alloc (.cells rtE 41) = wA at HRES HB1 ⊢
 go_upto_region 2 with (fail)
 have HG : Hid (HasC 88 wA.heap.size (AlC Al.zero Av.zero) (wA.alloc (.cells (AlC Al.zero Av.zero) 88))) := hid (HasC.new _ _ _)
 have HZ := hid (RZ.zero HG.out ((Below.refl _ wA).alloc (Nat.le_refl _) _))
 have hlt := zBf HRES.out
 have HEA : Hid (EnvA wA.heap.size wA) := hid (by have h := HE.out.keep HB1.out; exact ⟨h.1, Nat.lt_of_lt_of_le h.2 HB1.out.size⟩)
 have HLA : Hid (LnV wA wA.heap.size (.slice A0 ls.length c0) ls) := hid (by
  obtain ⟨A, c, e, h1, h2, h3⟩ := HLN.out.below HB1.out
  refine ⟨A, c, e, h1, h2, fun j fs hj => ?_⟩
  obtain ⟨g, o, u, e, hg, hc, A', c', e', h1', h2'⟩ := h3 j fs hj
  exact ⟨g, o, u, e, Nat.lt_of_lt_of_le hg HB1.out.size, hc, A', c', e', h1', h2'.mono HB1.out.size⟩)
 clear HG
 change Code.wp _ _ _ _ (wA.alloc (.cells (AlC Al.zero Av.zero) 88))
 generalize wA.alloc (.cells (AlC Al.zero Av.zero) 88) = w2 at HZ ⊢
 go_wp2_with fail
 go_loopg [16] ls.length (fun gh ix wr => ∃ (j : Nat) (a : Al), j + gh = ls.length ∧ ix = .int .i64 j ∧ Hid (RZ wA.heap.size wA.heap.size wA a wr) ∧ Hid (AlOk j a) ∧ Hid (zDk skip (ls.drop j) j a = zDk skip ls 0 Al.zero))
 case atStart => exact ⟨0, Al.zero, by omega, rfl, HZ, hid (AlOk.zero 0), hid rfl⟩
 case round =>
  clear HZ
  obtain ⟨j, a, hj, rfl, HZ, HK, HL⟩ := hrel
  have hmx := HN.out
  by_cases hjl : j < ls.length
  case pos =>
   obtain ⟨gf, of, cf, u, e', cu, hfu⟩ := HLA.out.at hjl
   injection e' with e1 e2 e3
   subst e1 e3
   have cu2 : wr.cell? ⟨gf, of + j, none⟩ = .some u := by
    obtain ⟨A, c, e, -, -, h3⟩ := HLA.out
    obtain ⟨g', o', u', e'', hg', -⟩ := h3 j ls[j] (List.getElem?_eq_getElem hjl)
    injection e with e1 _ _
    rw [e''] at e1
    injection e1 with e1
    injection e1 with e1 _ _
    subst e1
    exact (HZ.out.below.cell (p := ⟨gf, of + j, none⟩) hg').trans cu
   have HAT := hid (linesK_at (skip := skip) hjl a)
   have HFU := hid (hfu.below HZ.out.below)
   have HSF := hid (HS.out _ (List.getElem_mem hjl))
   obtain ⟨Au, cc, eu, -⟩ := hfu
   have hjz : (j : Int) < (ls.length : Int) := by omega
   generalize ls[j] = fs at HAT HFU HSF eu
   subst eu
   clear e2 cu
   by_cases hsk : (j : Int) = skip
   ·have ds : ((j : Int) == skip) = true := by simpa using hsk
    have E1 : Hid (zDk skip (ls.drop (j + 1)) (j + 1) a = zDk skip ls 0 Al.zero) := hid (by rw [← HL.out, HAT.out, if_pos (.inl hsk)])
    clear hsk
    go_wp2_with fail
    go_roundg (ls.length - (j + 1))
    case measure => omega
    case rel => exact ⟨j + 1, a, by omega, by go_num, HZ, hid (HK.out.up (Nat.le_succ _)), E1⟩
   have ds : ((j : Int) == skip) = false := by simpa using hsk
   obtain ⟨nf, hnf⟩ : ∃ nf, nf = fs.length := ⟨_, rfl⟩
   have HNF := hid hnf
   rw [← hnf] at cu2
   clear hnf
   rcases Nat.eq_zero_or_pos nf with h0 | h0
   ·subst h0
    have E1 : Hid (zDk skip (ls.drop (j + 1)) (j + 1) a = zDk skip ls 0 Al.zero) := hid (by rw [← HL.out, HAT.out, if_pos (.inr (List.eq_nil_of_length_eq_zero HNF.out.symm))])
    clear hsk
    go_wp2_with fail
    go_roundg (ls.length - (j + 1))
    case measure => omega
    case rel => exact ⟨j + 1, a, by omega, by go_num, HZ, hid (HK.out.up (Nat.le_succ _)), E1⟩
   have hne : fs ≠ [] := by intro e; have := HNF.out; rw [e] at this; simp at this; omega
   have dn : ((nf : Int) == 0) = false := by simp; omega
   have HLine := hid (line_any wA.heap.size wA.heap.size wA a (.slice Au fs.length cc) fs wr HZ.out (HK.out.up (by omega)) HEA.out HFU.out hne HSF.out)
   rw [← HNF.out] at HLine
   have HC : Hid (zDk skip ls 0 Al.zero = if (lineS fs a).2 then zDk skip (ls.drop (j + 1)) (j + 1) (lineS fs a).1 else (a, some (j + 1))) := hid (by rw [← HL.out, HAT.out, if_neg (fun h => h.elim hsk hne)])
   clear hsk hne h0
   go_wp2_with fail
   refine HLine.out.mono ?_
   rintro e w5 ⟨rfl, hz5⟩
   have HZ5 := hid hz5
   clear hz5
   cases hok : (lineS fs a).2 with
   | true =>
    have E1 : Hid (zDk skip (ls.drop (j + 1)) (j + 1) (lineS fs a).1 = zDk skip ls 0 Al.zero) := hid (by rw [HC.out, if_pos hok])
    clear hok
    go_wp2_with fail
    go_roundg (ls.length - (j + 1))
    case measure => omega
    case rel => exact ⟨j + 1, (lineS fs a).1, by omega, by go_num, HZ5, hid (lineS_ok HK.out fs), E1⟩
   | false =>
    have E1 : Hid (zDk skip ls 0 Al.zero = (a, some (j + 1))) := hid (by rw [HC.out, if_neg (by rw [hok]; decide)])
    have HR5 := hid (HRES.out.below HZ5.out.below hlt)
    clear hok
    go_wp2_with (first | (refine zAd rfl 41 _ _ rfl rfl (ds := rtE) rfl HR5.out rfl Tryz.sizeRt zJo ?_; intro wz hz1 hz2))
    refine bodyPost_ret (zDg rfl rfl rfl rfl (hz1.loadR Tryz.rowRt Tryz.sizeRt)) rfl ?_
    have hbz : Below w.heap.size w wz := (HB1.out.trans (HZ5.out.below.mono HB1.out.size)).trans (zAu hz2 (Nat.le_refl _) (Nat.le_trans HB1.out.size HZ5.out.below.size))
    unfold ReadP ReadR
    rw [E1.out]
    exact ⟨hbz, by go_num⟩
  case neg =>
   have hjz : ¬ ((j : Int) < (ls.length : Int)) := by omega
   have EL : Hid (zDk skip ls 0 Al.zero = (a, none)) := hid (by rw [← HL.out, List.drop_of_length_le (by omega)]; rfl)
   have HRT := hid (router_any wA.heap.size wA.heap.size wA a wr HZ.out (HK.out.up (by omega)))
   clear HL hjl
   go_wp2_with fail
   refine HRT.out.mono ?_
   rintro e w3 ⟨r, rfl, hb3, hpl, hat⟩
   have HB3 := hid hb3
   have HPL := hid hpl
   have HAT := hid hat
   have HA3 := hid (hat [] w3 (fun _ h => by cases h) (Fr.refl _ _))
   clear hb3 hpl hat HRT
   go_upto_region 10 with (first | (refine zAd rfl 41 _ _ rfl rfl (ds := r.C) rfl (HasC.new _ _ _) rfl Tryz.sizeRt HA3.out.one ?_; intro w4 hz1 hz2))
   have HB4 := hid (zAn hz2)
   have X4 := hid hz1
   have HA4 := hid (HA3.out.below HB4.out)
   have HCR4 := hid (HCR.out r w4 w3.heap.size HA4.out HB4.out.size (alRt_fit HK.out HPL.out))
   clear hz1 hz2
   go_wp2_with (first | (refine zAa rfl _ _ rfl rfl X4.out.range Tryz.rowRt Tryz.sizeRt ?_))
   refine HCR4.out.mono ?_
   rintro e w5 ⟨rfl, hb5⟩
   have HB5 := hid hb5
   have HBA : Hid (Below wA.heap.size wA w5) := hid (HZ.out.below.trans ((HB3.out.trans ((HB4.out.trans (hb5.mono HB4.out.size)).mono HB3.out.size)).mono HZ.out.below.size))
   have HR5 := hid (HRES.out.below HBA.out hlt)
   have HF5 : Hid (Fr [w.heap.size] w3 w5) := hid (Fr.of_below (HB4.out.trans (hb5.mono HB4.out.size)))
   have X5 := hid (X4.out.keep hb5)
   have HBW : Hid (Below w.heap.size w w5) := hid (HB1.out.trans (HBA.out.mono HB1.out.size))
   clear hb5 HCR4
   cases hE : (E r != 0) with
   | true =>
    have hne : E r ≠ 0 := by simpa using hE
    have HNE := hid hne
    clear hne
    go_wp2_with (first | (refine zAd rfl 41 _ _ rfl rfl (ds := rtE) rfl HR5.out rfl Tryz.sizeRt zJo ?_; intro wz hz1 hz2))
    refine bodyPost_ret (zDg rfl rfl rfl rfl (hz1.loadR Tryz.rowRt Tryz.sizeRt)) rfl ?_
    unfold ReadP ReadR
    rw [EL.out]
    exact ⟨HBW.out.trans (zAu hz2 (Nat.le_refl _) HBW.out.size), r, HPL.out, fun ks wq hk hf => HAT.out (w.heap.size :: ks) wq (fun k hm => (List.mem_cons.1 hm).elim (fun e => e ▸ hlt) (fun hm => Nat.lt_trans (hk k hm) hlt)) (((HF5.out.trans (Fr.ofOne hz2 (by simp))).mono (fun k hm => by simp at hm; subst hm; exact List.mem_cons_self)).trans (hf.mono (fun k hm => List.mem_cons_of_mem _ hm))), fun h => absurd h HNE.out, fun _ => rfl⟩
   | false =>
    have h0 : E r = 0 := by simpa using hE
    have H0 := hid h0
    clear h0
    go_wp2_with (first | (refine zAa rfl _ _ rfl rfl X5.out.range Tryz.rowRt Tryz.sizeRt ?_) | (refine zAd rfl 41 _ _ rfl rfl (ds := r.C) rfl HR5.out rfl Tryz.sizeRt HA3.out.one ?_; intro wz hz1 hz2))
    refine bodyPost_ret (zDg rfl rfl rfl rfl (hz1.loadR Tryz.rowRt Tryz.sizeRt)) rfl ?_
    unfold ReadP ReadR
    rw [EL.out]
    exact ⟨HBW.out.trans (zAu hz2 (Nat.le_refl _) HBW.out.size), r, HPL.out, fun ks wq hk hf => HAT.out (w.heap.size :: ks) wq (fun k hm => (List.mem_cons.1 hm).elim (fun e => e ▸ hlt) (fun hm => Nat.lt_trans (hk k hm) hlt)) (((HF5.out.trans (Fr.ofOne hz2 (by simp))).mono (fun k hm => by simp at hm; subst hm; exact List.mem_cons_self)).trans (hf.mono (fun k hm => List.mem_cons_of_mem _ hm))), fun _ => rfl, fun h => absurd H0.out h⟩
theorem fieldsGo_short (cm : Int) : ∀ (l : List UInt8) (o : Option (List UInt8)), ∀ x ∈ zAs cm o l, x.length ≤ (o.getD []).length + l.length := by
 intro l
 induction l with
 | nil =>
  intro o x h
  cases o with
  | none => simp [zAs] at h
  | some y => simp [zAs] at h; subst h; simp
 | cons c r ih =>
  intro o x h
  cases o with
  | none =>
   unfold zAs at h
   split at h
   ·have := ih none x h; simp at this ⊢; omega
   ·split at h
    ·simp at h
    ·have := ih _ x h; simp at this ⊢; omega
  | some y =>
   unfold zAs at h
   split at h
   ·rcases List.mem_cons.1 h with h | h
    ·subst h; simp
    ·have := ih none x h; simp at this ⊢; omega
   ·have := ih _ x h; simp at this ⊢; omega
theorem fieldsOf_short (cm : Int) (l : List UInt8) : ∀ x ∈ zCh cm l, x.length ≤ l.length := fun x h => by
 have := fieldsGo_short cm l none x h
 simpa using this
def zCt (l : List UInt8) : List (List (List UInt8)) := (zBy l).map (zCh 33)
def ParseP (E : Rt → Int) (l : List UInt8) (w : World) (e : Ending) (w' : World) : Prop :=
 Below w.heap.size w w' ∧ (zAy l ≠ 0 → e = .returned (.tuple #[.agg rtE, .int .i64 0, .int .i64 (zAy l)])) ∧ (zAy l = 0 → ReadR E (-1) (zCt l) w.heap.size e w')
theorem zIv (E : Rt → Int) (CR : ∀ (r : Rt) (w : World) (B : Nat), r.at w B → B ≤ w.heap.size → r.fit → Calls Tryz.prog 36 #[.agg r.C] w fun e w' => e = .returned (.int .i64 (E r)) ∧ Below w.heap.size w w')
  (s : ByteArray) (w : World) (he : EnvA w.heap.size w) : Calls Tryz.prog 7 #[.string s] w (ParseP E (bytes s) w) := by
 have HE := hid he
 have HCR := hid CR
 clear he CR
 go_enter Tryz.func7, Tryz.ntmps7
 go_upto_region 1 with (fail)
 have HRES := hid (HasC.new w 41 rtE)
 have HB1 := hid ((Below.refl w.heap.size w).alloc (Nat.le_refl _) (.cells rtE 41))
 change Code.wp _ _ _ _ (w.alloc (.cells rtE 41))
 generalize w.alloc (.cells rtE 41) = wA at HRES HB1 ⊢
 have hlt := zBf HRES.out
 go_wp2_with fail
 refine (split_any s wA).mono ?_
 rintro e w1 ⟨v1, rfl, hb1, hln⟩
 generalize bytes s = l at *
 have HB2 := hid hb1
 have HR1 := hid (HRES.out.below hb1 hlt)
 have HBW : Hid (Below w.heap.size w w1) := hid (HB1.out.trans (hb1.mono HB1.out.size))
 clear hb1
 cases hE : (zAy l != 0) with
 | true =>
  have hne : zAy l ≠ 0 := by simpa using hE
  have HNE := hid hne
  clear hne hln
  go_wp2_with (first | (refine zAd rfl 41 _ _ rfl rfl (ds := rtE) rfl HR1.out rfl Tryz.sizeRt zJo ?_; intro wz hz1 hz2))
  refine bodyPost_ret (zDg rfl rfl rfl rfl (hz1.loadR Tryz.rowRt Tryz.sizeRt)) rfl ?_
  exact ⟨HBW.out.trans (zAu hz2 (Nat.le_refl _) HBW.out.size), fun _ => rfl, fun h => absurd h HNE.out⟩
 | false =>
  have h0 : zAy l = 0 := by simpa using hE
  have hl := hln h0
  have hsh := lines_short h0
  have HRD := hid (read_gen E HCR.out v1 (zCt l) (-1) w1 hl (by unfold zCt; rw [List.length_map]; omega) (fun fs hfs f hf => by
   obtain ⟨t, ht, rfl⟩ := List.mem_map.1 hfs
   have h1 := fieldsOf_short 33 t f hf
   have h2 := hsh.2 t ht
   omega) (by have h := HE.out.keep HBW.out; exact ⟨h.1, Nat.lt_of_lt_of_le h.2 HBW.out.size⟩))
  have H0 := hid h0
  have hlt1 : w.heap.size < w1.heap.size := Nat.lt_of_lt_of_le hlt HB2.out.size
  clear h0 hl hsh hln
  go_wp2_with fail
  refine HRD.out.mono ?_
  rintro e w2 ⟨hb2, hr⟩
  have HB3 := hid hb2
  have HR2 := hid (HR1.out.below hb2 hlt1)
  have HBX : Hid (Below w.heap.size w w2) := hid (HBW.out.trans (hb2.mono HBW.out.size))
  clear hb2
  unfold ReadR at hr
  cases hlk : zDk (-1) (zCt l) 0 Al.zero with
  | mk a o =>
  rw [hlk] at hr
  have HLK := hid hlk
  clear hlk
  cases o with
  | some n =>
   obtain rfl : e = _ := hr
   go_wp2_with (first | (refine zAd rfl 41 _ _ rfl rfl (ds := rtE) rfl HR2.out rfl Tryz.sizeRt zJo ?_; intro wz hz1 hz2))
   refine bodyPost_ret (zDg rfl rfl rfl rfl (hz1.loadR Tryz.rowRt Tryz.sizeRt)) rfl ?_
   exact ⟨HBX.out.trans (zAu hz2 (Nat.le_refl _) HBX.out.size), fun h => absurd H0.out h, fun _ => by unfold ReadR; rw [HLK.out]; rfl⟩
  | none =>
   obtain ⟨r, hpl, hat, hr1, hr2⟩ := hr
   have HPL := hid hpl
   have HAT := hid hat
   have HA2 := hid (hat [] w2 (fun _ h => by cases h) (Fr.refl _ _))
   clear hpl hat
   by_cases h0 : E r = 0
   ·have H00 := hid h0
    obtain rfl : e = _ := hr1 h0
    clear h0 hr1 hr2
    go_wp2_with (first | (refine zAd rfl 41 _ _ rfl rfl (ds := r.C) rfl HR2.out rfl Tryz.sizeRt HA2.out.one ?_; intro wz hz1 hz2))
    refine bodyPost_ret (zDg rfl rfl rfl rfl (hz1.loadR Tryz.rowRt Tryz.sizeRt)) rfl ?_
    refine ⟨HBX.out.trans (zAu hz2 (Nat.le_refl _) HBX.out.size), fun h => absurd H0.out h, fun _ => ?_⟩
    unfold ReadR
    rw [HLK.out]
    exact ⟨r, HPL.out, fun ks wq hk hf => HAT.out (w.heap.size :: ks) wq (fun k hm => (List.mem_cons.1 hm).elim (fun e => e ▸ hlt1) (fun hm => Nat.lt_trans (hk k hm) hlt1)) ((Fr.ofOne hz2 (by simp)).trans (hf.mono (fun k hm => List.mem_cons_of_mem _ hm))), fun _ => rfl, fun h => absurd H00.out h⟩
   ·have H00 := hid h0
    obtain rfl : e = _ := hr2 h0
    clear h0 hr1 hr2
    go_wp2_with (first | (refine zAd rfl 41 _ _ rfl rfl (ds := rtE) rfl HR2.out rfl Tryz.sizeRt zJo ?_; intro wz hz1 hz2))
    refine bodyPost_ret (zDg rfl rfl rfl rfl (hz1.loadR Tryz.rowRt Tryz.sizeRt)) rfl ?_
    refine ⟨HBX.out.trans (zAu hz2 (Nat.le_refl _) HBX.out.size), fun h => absurd H0.out h, fun _ => ?_⟩
    unfold ReadR
    rw [HLK.out]
    exact ⟨r, HPL.out, fun ks wq hk hf => HAT.out (w.heap.size :: ks) wq (fun k hm => (List.mem_cons.1 hm).elim (fun e => e ▸ hlt1) (fun hm => Nat.lt_trans (hk k hm) hlt1)) ((Fr.ofOne hz2 (by simp)).trans (hf.mono (fun k hm => List.mem_cons_of_mem _ hm))), fun h => absurd h H00.out, fun _ => rfl⟩
def saneT : List UInt8 := [104, 111, 115, 116, 110, 97, 109, 101, 32, 114, 49, 10, 105, 110, 116, 101, 114, 102, 97, 99, 101, 32, 101, 48, 10, 32, 97, 100, 100, 114, 101, 115, 115, 32, 49, 48, 46, 48, 46, 48, 46, 49, 47, 50, 52, 10, 32, 110, 111, 32, 115, 104, 117, 116, 100, 111, 119, 110, 32, 33, 32, 117, 112, 10, 114, 111, 117, 116, 101, 32, 48, 46, 48, 46, 48, 46, 48, 47, 48, 32, 100, 105, 115, 99, 97, 114, 100, 10]
def saneU : List UInt8 := [104, 111, 115, 116, 110, 97, 109, 101, 32, 114, 49, 10, 97, 100, 100, 114, 101, 115, 115, 32, 49, 48, 46, 48, 46, 48, 46, 49, 47, 50, 52, 10]
def saneA : Al := { Al.zero with name := [114, 49], ifs := [⟨[101, 48], 167772161, 24, 0, false, false, 0, 0, false, [], [], 0⟩], stat := [⟨0, 0, 0, [], true, 1, 0⟩], iface := 0 }
theorem saneT_err : zAy saneT = 0 := by decide
theorem saneU_err : zAy saneU = 0 := by decide
theorem saneT_len : (zCt saneT).length = 5 := by decide
theorem saneT_run : zDk (-1) (zCt saneT) 0 Al.zero = (saneA, none) := by kernel_rfl
theorem saneU_run : (zDk (-1) (zCt saneU) 0 Al.zero).2 = some 2 := by kernel_rfl
theorem sane_gen (E : Rt → Int) (CR : ∀ (r : Rt) (w : World) (B : Nat), r.at w B → B ≤ w.heap.size → r.fit → Calls Tryz.prog 36 #[.agg r.C] w fun e w' => e = .returned (.int .i64 (E r)) ∧ Below w.heap.size w w')
  (h0 : ∀ r : Rt, r.plain = alRt saneA → E r = 0) (w : World) (he : EnvA w.heap.size w) : Calls Tryz.prog 10 #[] w fun e w' => e = .returned (.bool true) ∧ Below w.heap.size w w' := by
 have HP1 : Hid (Calls Tryz.prog 7 #[.string (str saneT)] w (ParseP E saneT w)) := hid (by have := zIv E CR (str saneT) w he; rwa [zBa] at this)
 have HP2 : Hid (∀ W, EnvA W.heap.size W → Calls Tryz.prog 7 #[.string (str saneU)] W (ParseP E saneU W)) := hid (fun W hW => by have := zIv E CR (str saneU) W hW; rwa [zBa] at this)
 have HE := hid he
 have H0 := hid h0
 clear he CR h0
 go_enter Tryz.func10, Tryz.ntmps10
 go_wp2_with fail
 refine HP1.out.mono ?_
 rintro e w1 ⟨hb1, -, hr⟩
 replace hr := hr saneT_err
 unfold ReadR at hr
 rw [saneT_run, saneT_len] at hr
 obtain ⟨r, hpl, hat, hr1, -⟩ := hr
 obtain rfl : e = _ := hr1 (H0.out r hpl)
 have HPL := hid hpl
 have HAT := hid hat
 have HB1 := hid hb1
 have HA1 := hid (hat [] w1 (fun _ h => by cases h) (Fr.refl _ _))
 clear hpl hat hb1 hr1
 go_upto_region 2 with (refine zAd rfl 41 _ _ rfl rfl (ds := r.C) rfl (HasC.new _ _ _) rfl Tryz.sizeRt HA1.out.one ?_; intro w2 hz1 hz2)
 have HB2 := hid (zAn hz2)
 have X2 := hid hz1
 have HE2 : Hid (EnvA w2.heap.size w2) := hid (by
  have h := HE.out.keep (HB1.out.trans (HB2.out.mono HB1.out.size))
  exact ⟨h.1, Nat.lt_of_lt_of_le h.2 (Nat.le_trans HB1.out.size HB2.out.size)⟩)
 have hlt : w1.heap.size < w2.heap.size := zBf hz1
 clear hz1 hz2
 go_wp2_with fail
 refine (HP2.out w2 HE2.out).mono ?_
 rintro e w3 ⟨hb3, -, hr⟩
 replace hr := hr saneU_err
 unfold ReadR at hr
 obtain ⟨a2, e2⟩ : ∃ a2, zDk (-1) (zCt saneU) 0 Al.zero = (a2, some 2) := ⟨_, Prod.ext rfl saneU_run⟩
 rw [e2] at hr
 obtain rfl : e = _ := hr
 have HB3 := hid hb3
 clear hb3 e2
 go_upto_region 3 with (refine zAd rfl 41 _ _ rfl rfl (ds := rtE) rfl (HasC.new _ _ _) rfl Tryz.sizeRt zJo ?_; intro w4 hz1 hz2)
 have HB4 : Hid (Below w2.heap.size w2 w4) := hid (HB3.out.trans ((zAn hz2).mono HB3.out.size))
 clear hz1 hz2
 have X4 := hid (X2.out.keep HB4.out)
 have HA4 := HAT.out [] w4 (fun _ h => by cases h) (Fr.of_below (HB2.out.trans (HB4.out.mono HB2.out.size)))
 have HBF : Hid (Below w.heap.size w w4) := hid (HB1.out.trans ((HB2.out.trans (HB4.out.mono HB2.out.size)).mono HB1.out.size))
 have hn : r.name = [114, 49] := congrArg Rt.name HPL.out
 have hi : r.ifs = saneA.ifs := congrArg Rt.ifs HPL.out
 have hs : r.stat = saneA.stat := congrArg Rt.stat HPL.out
 have S1 := HA4.hifs
 have S2 := HA4.hstat
 rw [hi] at S1
 rw [hs] at S2
 obtain ⟨gi, oi, ci, ei, -, hgi, Ri⟩ := S1.elem (n := 12) (by decide) (fun _ => rfl) (k := 0) (by decide)
 obtain ⟨As, cs, es, -⟩ := S2
 have k0 : w4.cell? ⟨w1.heap.size, 0, none⟩ = .some (.string (str [114, 49])) := (X4.out.cell 0).trans (by show some (strV r.name) = _; rw [hn]; rfl)
 have k2 : w4.cell? ⟨w1.heap.size, 2, none⟩ = .some (.slice (some ⟨gi, oi, none⟩) 1 ci) := (X4.out.cell 2).trans (by show some r.ifsV = _; rw [ei]; rfl)
 have k7 : w4.cell? ⟨w1.heap.size, 7, none⟩ = .some (.slice As 1 cs) := (X4.out.cell 7).trans (by show some r.statV = _; rw [es]; rfl)
 have kd : w4.cell? ⟨gi, oi + 4, none⟩ = .some (.bool false) := by
  have := Ri 4 _ rfl
  rw [Nat.zero_mul, Nat.add_zero] at this
  exact this
 have kq : ((str [114, 49]).toList == [114, 49]) = true := by rw [zAb]; rfl
 clear S1 Ri ei es HA4 hn hi hs hgi
 go_wp2_with fail
 go_ret
 exact ⟨rfl, HBF.out⟩
theorem zGb (u v : Value) (l : List Rd) (w : World) (B : Nat) (hu : SlV w B 5 Rd.C u l) (hv : SlV w B 5 Rd.C v l) (hB : B ≤ w.heap.size) :
  Calls Tryz.prog 44 #[u, v] w fun e w' => e = .returned (.bool true) ∧ Below w.heap.size w w' := by
 have hlen := hu.len
 obtain ⟨Au, cu, rfl, -⟩ := id hu
 obtain ⟨Av, cv, rfl, -⟩ := id hv
 have HU := hid (hu.lift hB)
 have HV := hid (hv.lift hB)
 simp only [maxLen] at hlen
 have HB := hid (Below.refl w.heap.size w)
 clear hu hv
 go_enter Tryz.func44, Tryz.ntmps44
 go_wp2_with fail
 go_loopg [5] l.length (fun gh ix wr => ∃ j : Nat, j + gh = l.length ∧ ix = .int .i64 j ∧ Hid (Below w.heap.size w wr))
 case atStart => exact ⟨0, by omega, rfl, HB⟩
 case round =>
  clear HB
  obtain ⟨j, hj, rfl, HB⟩ := hrel
  by_cases hjl : j < l.length
  case pos =>
   obtain ⟨g1, o1, d1, e1, -, hg1, R1⟩ := HU.out.elem (n := 5) (by decide) (fun _ => rfl) hjl
   obtain ⟨g2, o2, d2, e2, -, hg2, R2⟩ := HV.out.elem (n := 5) (by decide) (fun _ => rfl) hjl
   injection e1 with f1 f2 f3
   injection e2 with f4 f5 f6
   subst f1 f3 f4 f6
   have r1 := hid (zAg R1 HB.out hg1)
   have r2 := hid (zAg R2 HB.out hg2)
   have hjz : (j : Int) < (l.length : Int) := by omega
   generalize l[j] = x at r1 r2
   clear R1 R2 f2 f5
   have ka0 : wr.cell? ⟨g1, o1 + j * 5, none⟩ = .some (.int .i64 x.frm) := r1.out 0 _ rfl
   have ka1 : wr.cell? ⟨g1, o1 + j * 5 + 1, none⟩ = .some (.int .i64 x.metric) := r1.out 1 _ rfl
   have ka2 : wr.cell? ⟨g1, o1 + j * 5 + 2, none⟩ = .some (.int .i64 x.tag) := r1.out 2 _ rfl
   have ka3 : wr.cell? ⟨g1, o1 + j * 5 + 3, none⟩ = .some (.string (str x.map)) := r1.out 3 _ rfl
   have ka4 : wr.cell? ⟨g1, o1 + j * 5 + 4, none⟩ = .some (.int .i64 x.typ) := r1.out 4 _ rfl
   have kb0 : wr.cell? ⟨g2, o2 + j * 5, none⟩ = .some (.int .i64 x.frm) := r2.out 0 _ rfl
   have kb1 : wr.cell? ⟨g2, o2 + j * 5 + 1, none⟩ = .some (.int .i64 x.metric) := r2.out 1 _ rfl
   have kb2 : wr.cell? ⟨g2, o2 + j * 5 + 2, none⟩ = .some (.int .i64 x.tag) := r2.out 2 _ rfl
   have kb3 : wr.cell? ⟨g2, o2 + j * 5 + 3, none⟩ = .some (.string (str x.map)) := r2.out 3 _ rfl
   have kb4 : wr.cell? ⟨g2, o2 + j * 5 + 4, none⟩ = .some (.int .i64 x.typ) := r2.out 4 _ rfl
   go_wp2_with fail
   go_still (by kernel_rfl)
   go_wp2_with fail
   go_roundg (l.length - (j + 1))
   case measure => omega
   case rel => exact ⟨j + 1, by omega, by go_num, hid (HB.out.trans ((zAo wr).mono HB.out.size))⟩
  case neg =>
   have hjz : ¬ ((j : Int) < (l.length : Int)) := by omega
   go_wp2_with fail
   go_ret
   exact ⟨rfl, HB.out⟩
structure SM (a b : Rt) (ba bb : Nat) (w0 w : World) : Prop where
 ha : HasC 41 ba a.C w
 hb : HasC 41 bb b.C w
 bel : Below w0.heap.size w0 w
theorem SM.keep {a b : Rt} {ba bb : Nat} {w0 w w' : World} (h : SM a b ba bb w0 w) (hb : Below w.heap.size w w') : SM a b ba bb w0 w' := ⟨h.ha.keep hb, h.hb.keep hb, h.bel.trans (hb.mono h.bel.size)⟩
theorem SM.start (a b : Rt) (w : World) : SM a b w.heap.size (w.heap.size + 1) w ((w.alloc (.cells a.C 41)).alloc (.cells b.C 41)) := by
 have h1 := HasC.new w 41 a.C
 have h2 := HasC.new (w.alloc (.cells a.C 41)) 41 b.C
 rw [show (w.alloc (.cells a.C 41)).heap.size = w.heap.size + 1 from by simp] at h2
 exact ⟨h1.keep ((Below.refl _ _).alloc (Nat.le_refl _) _), h2, ((Below.refl _ w).alloc (Nat.le_refl _) _).alloc (by simp) _⟩
structure SX (a b : Rt) (ba bb p q : Nat) (T : TypeId) (cp cq : Array Value) (w0 w : World) : Prop where
 sm : SM a b ba bb w0 w
 hp : HasC T p cp w
 hq : HasC T q cq w
theorem SX.keep {a b : Rt} {ba bb p q : Nat} {T : TypeId} {cp cq : Array Value} {w0 w w' : World} (h : SX a b ba bb p q T cp cq w0 w) (hb : Below w.heap.size w w') : SX a b ba bb p q T cp cq w0 w' := ⟨h.sm.keep hb, h.hp.keep hb, h.hq.keep hb⟩
theorem zCm (w : World) (T : TypeId) (xs ys : Array Value) :
  HasC T w.heap.size xs ((w.alloc (.cells xs T)).alloc (.cells ys T)).drew ∧ HasC T (w.heap.size + 1) ys ((w.alloc (.cells xs T)).alloc (.cells ys T)).drew ∧ Below w.heap.size w ((w.alloc (.cells xs T)).alloc (.cells ys T)).drew := by
 have h1 := (HasC.new w T xs).keep ((Below.refl _ (w.alloc (.cells xs T))).alloc (Nat.le_refl _) (.cells ys T))
 have h2 := HasC.new (w.alloc (.cells xs T)) T ys
 rw [show (w.alloc (.cells xs T)).heap.size = w.heap.size + 1 from by simp] at h2
 have hB : Below w.heap.size w ((w.alloc (.cells xs T)).alloc (.cells ys T)) := ((Below.refl _ w).alloc (Nat.le_refl _) _).alloc (by simp) _
 exact ⟨h1, h2, hB.trans ((zAo _).mono hB.size)⟩
theorem len_lists {a b : Rt} (h : a.plain = b.plain) : b.lists.length = a.lists.length ∧ b.maps.length = a.maps.length ∧ b.acls.length = a.acls.length := by
 have h1 := congrArg (fun r => r.lists.length) h
 have h2 := congrArg (fun r => r.maps.length) h
 have h3 := congrArg (fun r => r.acls.length) h
 simp only [Rt.plain, List.length_map] at h1 h2 h3
 exact ⟨h1.symm, h2.symm, h3.symm⟩
theorem same_lists {a b : Rt} (h : a.plain = b.plain) {j : Nat} (hj : j < a.lists.length) (hb : j < b.lists.length) : b.lists[j].name = a.lists[j].name ∧ b.lists[j].rules = a.lists[j].rules := by
 have h1 := congrArg (fun r => r.lists[j]?) h
 simp only [Rt.plain, List.getElem?_map, List.getElem?_eq_getElem hj, List.getElem?_eq_getElem hb, Option.map_some, Option.some.injEq] at h1
 injection h1 with h2 _ h3
 exact ⟨h2.symm, h3.symm⟩
theorem same_maps {a b : Rt} (h : a.plain = b.plain) {j : Nat} (hj : j < a.maps.length) (hb : j < b.maps.length) : b.maps[j].name = a.maps[j].name ∧ b.maps[j].clauses = a.maps[j].clauses := by
 have h1 := congrArg (fun r => r.maps[j]?) h
 simp only [Rt.plain, List.getElem?_map, List.getElem?_eq_getElem hj, List.getElem?_eq_getElem hb, Option.map_some, Option.some.injEq] at h1
 injection h1 with h2 _ h3
 exact ⟨h2.symm, h3.symm⟩
theorem same_acls {a b : Rt} (h : a.plain = b.plain) {j : Nat} (hj : j < a.acls.length) (hb : j < b.acls.length) : b.acls[j].name = a.acls[j].name ∧ b.acls[j].rules = a.acls[j].rules := by
 have h1 := congrArg (fun r => r.acls[j]?) h
 simp only [Rt.plain, List.getElem?_map, List.getElem?_eq_getElem hj, List.getElem?_eq_getElem hb, Option.map_some, Option.some.injEq] at h1
 injection h1 with h2 _ h3
 exact ⟨h2.symm, h3.symm⟩
theorem sameLists_any (a b : Rt) (w : World) (B : Nat) (hat : a.at w B) (hbt : b.at w B) (hB : B ≤ w.heap.size) (hp : a.plain = b.plain) :
  Calls Tryz.prog 18 #[.agg a.C, .agg b.C] w fun e w' => e = .returned (.bool true) ∧ Below w.heap.size w w' := by
 have hal := hat.lift hB
 have hbl := hbt.lift hB
 have HP := hid hp
 have H0 := hid (SM.start a b w)
 have HU3 := hid hal.hlists
 have HV3 := hid hbl.hlists
 have NU3 := hid hal.nlists
 have NV3 := hid hbl.nlists
 obtain ⟨A3, c3, e3, -⟩ := hal.hlists
 obtain ⟨D3, d3, f3, -⟩ := hbl.hlists
 have hl3 := (len_lists hp).1
 rw [hl3] at f3
 have EA3 := hid e3
 have EB3 := hid f3
 have HL3 := hid hl3
 have ca3 : ((w.alloc (.cells a.C 41)).alloc (.cells b.C 41)).cell? ⟨w.heap.size, 3, none⟩ = .some (.slice A3 a.lists.length c3) := by rw [← e3]; exact H0.out.ha.cell 3
 have cb3 : ((w.alloc (.cells a.C 41)).alloc (.cells b.C 41)).cell? ⟨w.heap.size + 1, 3, none⟩ = .some (.slice D3 a.lists.length d3) := by rw [← f3]; exact H0.out.hb.cell 3
 clear e3 f3 hl3
 have HU4 := hid hal.hmaps
 have HV4 := hid hbl.hmaps
 have NU4 := hid hal.nmaps
 have NV4 := hid hbl.nmaps
 obtain ⟨A4, c4, e4, -⟩ := hal.hmaps
 obtain ⟨D4, d4, f4, -⟩ := hbl.hmaps
 have hl4 := (len_lists hp).2.1
 rw [hl4] at f4
 have EA4 := hid e4
 have EB4 := hid f4
 have HL4 := hid hl4
 have ca4 : ((w.alloc (.cells a.C 41)).alloc (.cells b.C 41)).cell? ⟨w.heap.size, 4, none⟩ = .some (.slice A4 a.maps.length c4) := by rw [← e4]; exact H0.out.ha.cell 4
 have cb4 : ((w.alloc (.cells a.C 41)).alloc (.cells b.C 41)).cell? ⟨w.heap.size + 1, 4, none⟩ = .some (.slice D4 a.maps.length d4) := by rw [← f4]; exact H0.out.hb.cell 4
 clear e4 f4 hl4
 have HU5 := hid hal.hacls
 have HV5 := hid hbl.hacls
 have NU5 := hid hal.nacls
 have NV5 := hid hbl.nacls
 obtain ⟨A5, c5, e5, -⟩ := hal.hacls
 obtain ⟨D5, d5, f5, -⟩ := hbl.hacls
 have hl5 := (len_lists hp).2.2
 rw [hl5] at f5
 have EA5 := hid e5
 have EB5 := hid f5
 have HL5 := hid hl5
 have ca5 : ((w.alloc (.cells a.C 41)).alloc (.cells b.C 41)).cell? ⟨w.heap.size, 5, none⟩ = .some (.slice A5 a.acls.length c5) := by rw [← e5]; exact H0.out.ha.cell 5
 have cb5 : ((w.alloc (.cells a.C 41)).alloc (.cells b.C 41)).cell? ⟨w.heap.size + 1, 5, none⟩ = .some (.slice D5 a.acls.length d5) := by rw [← f5]; exact H0.out.hb.cell 5
 clear e5 f5 hl5
 clear hal hbl hat hbt hp
 go_enter Tryz.func18, Tryz.ntmps18
 go_upto_region 3 with (fail)
 clear ca3 ca4 ca5 cb3 cb4 cb5
 generalize ((w.alloc (.cells a.C 41)).alloc (.cells b.C 41)) = w2 at H0 ⊢
 go_wp2_with fail
 go_loopg [5] a.lists.length (fun gh ix wr => ∃ j : Nat, j + gh = a.lists.length ∧ ix = .int .i64 j ∧ Hid (SM a b w.heap.size (w.heap.size + 1) w wr))
 case atStart => exact ⟨0, by omega, rfl, H0⟩
 case round =>
  clear H0
  obtain ⟨j, hj, rfl, H⟩ := hrel
  by_cases hjl : j < a.lists.length
  case pos =>
   have hjb : j < b.lists.length := by rw [HL3.out]; exact hjl
   have hsm := same_lists HP.out hjl hjb
   obtain ⟨g1, o1, d1, e1, -, hg1, R1⟩ := HU3.out.elem (n := 2) (by decide) (fun _ => rfl) hjl
   obtain ⟨g2, o2, d2, e2, -, hg2, R2⟩ := HV3.out.elem (n := 2) (by decide) (fun _ => rfl) hjb
   have n1 := NU3.out _ (List.getElem_mem hjl)
   have n2 := NV3.out _ (List.getElem_mem hjb)
   rw [EA3.out] at e1
   rw [EB3.out] at e2
   injection e1 with f1 f2 f3
   injection e2 with f4 f5 f6
   subst f1 f3 f4 f6
   have r1 := hid (zAg R1 H.out.bel hg1)
   have r2 := hid (zAg R2 H.out.bel hg2)
   have lb1 : g1 < wr.heap.size := Nat.lt_of_lt_of_le hg1 H.out.bel.size
   have lb2 : g2 < wr.heap.size := Nat.lt_of_lt_of_le hg2 H.out.bel.size
   have lb3 : w.heap.size < wr.heap.size := zBf H.out.ha
   have lb4 : w.heap.size + 1 < wr.heap.size := zBf H.out.hb
   have hjz : (j : Int) < (a.lists.length : Int) := by omega
   clear R1 R2 f2 f5 hg1 hg2
   generalize a.lists[j] = x at r1 n1 hsm
   generalize b.lists[j] = y at r2 n2 hsm
   obtain ⟨ynm, yv, yr⟩ := y
   obtain ⟨hs1, hs2⟩ := hsm
   dsimp only at hs1 hs2
   subst hs1 hs2
   have N1 : Hid (SlV w w.heap.size 5 PRule.C x.v x.rules) := hid n1
   have N2 : Hid (SlV w w.heap.size 5 PRule.C yv x.rules) := hid n2
   obtain ⟨Ax, cx, ex, -⟩ := n1
   obtain ⟨Ay, cy, ey, -⟩ := n2
   rw [ex] at N1
   have ey2 : yv = .slice Ay x.rules.length cy := ey
   rw [ey2] at N2
   have k1 : wr.cell? ⟨g1, o1 + j * 2, none⟩ = .some (.string (str x.name)) := r1.out 0 _ rfl
   have k2 : wr.cell? ⟨g1, o1 + j * 2 + 1, none⟩ = .some (.slice Ax x.rules.length cx) := by rw [← ex]; exact r1.out 1 _ rfl
   have k3 : wr.cell? ⟨g2, o2 + j * 2, none⟩ = .some (.string (str x.name)) := r2.out 0 _ rfl
   have k4 : wr.cell? ⟨g2, o2 + j * 2 + 1, none⟩ = .some (.slice Ay x.rules.length cy) := by rw [← ey2]; exact r2.out 1 _ rfl
   have k5 : wr.cell? ⟨w.heap.size, 3, none⟩ = .some (.slice (some ⟨g1, o1, none⟩) a.lists.length c3) := by rw [← EA3.out]; exact H.out.ha.cell 3
   have k6 : wr.cell? ⟨w.heap.size + 1, 3, none⟩ = .some (.slice (some ⟨g2, o2, none⟩) a.lists.length d3) := by rw [← EB3.out]; exact H.out.hb.cell 3
   clear r1 r2 ex ey ey2
   go_upto_region 6 with (fail)
   go_cut [6, 7] (fun x0 y0 wx => ∃ p q : Nat, x0 = .pointer (some ⟨p, 0, none⟩) ∧ y0 = .pointer (some ⟨q, 0, none⟩) ∧ SX a b w.heap.size (w.heap.size + 1) p q 94 #[.string (str x.name), .slice Ax x.rules.length cx] #[.string (str x.name), .slice Ay x.rules.length cy] w wx)
   case first =>
    have k1d : wr.drew.cell? ⟨g1, o1 + j * 2, none⟩ = .some (.string (str x.name)) := k1
    have k2d : wr.drew.cell? ⟨g1, o1 + j * 2 + 1, none⟩ = .some (.slice Ax x.rules.length cx) := k2
    have k3d : wr.drew.cell? ⟨g2, o2 + j * 2, none⟩ = .some (.string (str x.name)) := k3
    have k4d : wr.drew.cell? ⟨g2, o2 + j * 2 + 1, none⟩ = .some (.slice Ay x.rules.length cy) := k4
    have k5d : wr.drew.cell? ⟨w.heap.size, 3, none⟩ = .some (.slice (some ⟨g1, o1, none⟩) a.lists.length c3) := k5
    have k6d : wr.drew.cell? ⟨w.heap.size + 1, 3, none⟩ = .some (.slice (some ⟨g2, o2, none⟩) a.lists.length d3) := k6
    go_region_held3 (fun w' => w'.cell? ⟨g1, o1 + j * 2, none⟩ = .some (.string (str x.name)) ∧ w'.cell? ⟨g1, o1 + j * 2 + 1, none⟩ = .some (.slice Ax x.rules.length cx) ∧ w'.cell? ⟨g2, o2 + j * 2, none⟩ = .some (.string (str x.name)) ∧ w'.cell? ⟨g2, o2 + j * 2 + 1, none⟩ = .some (.slice Ay x.rules.length cy) ∧ w'.cell? ⟨w.heap.size, 3, none⟩ = .some (.slice (some ⟨g1, o1, none⟩) a.lists.length c3) ∧ w'.cell? ⟨w.heap.size + 1, 3, none⟩ = .some (.slice (some ⟨g2, o2, none⟩) a.lists.length d3)) (first | (with_reducible exact ⟨k1d, k2d, k3d, k4d, k5d, k6d⟩) | go_keep | (refine ⟨?_, ?_, ?_, ?_, ?_, ?_⟩ <;> ((repeat first | rw [World.cell?_setCell_other _ _ _ _ (by intro h; simp only [Addr.mk.injEq] at h; omega)] | rw [World.cell?_alloc_lt _ _ _ (by first | assumption | (simp; omega))]); assumption))) (fail)
    all_goals
     go_wp2_with fail
     go_meet
     first | exact ⟨wr.heap.size, wr.heap.size + 1, rfl, rfl, ⟨H.out.keep (zCm wr 94 #[.string (str x.name), .slice Ax x.rules.length cx] #[.string (str x.name), .slice Ay x.rules.length cy]).2.2, (zCm wr 94 #[.string (str x.name), .slice Ax x.rules.length cx] #[.string (str x.name), .slice Ay x.rules.length cy]).1, (zCm wr 94 #[.string (str x.name), .slice Ax x.rules.length cx] #[.string (str x.name), .slice Ay x.rules.length cy]).2.1⟩⟩ | exact ⟨wr.heap.size + 1, wr.heap.size, rfl, rfl, ⟨H.out.keep (zCm wr 94 #[.string (str x.name), .slice Ay x.rules.length cy] #[.string (str x.name), .slice Ax x.rules.length cx]).2.2, (zCm wr 94 #[.string (str x.name), .slice Ay x.rules.length cy] #[.string (str x.name), .slice Ax x.rules.length cx]).2.1, (zCm wr 94 #[.string (str x.name), .slice Ay x.rules.length cy] #[.string (str x.name), .slice Ax x.rules.length cx]).1⟩⟩
   case rest =>
    obtain ⟨p, q, rfl, rfl, hx⟩ := hcut
    have HX := hid hx
    clear hx k1 k2 k3 k4 k5 k6 lb1 lb2 lb3 lb4
    have p0 : wc.cell? ⟨p, 0, none⟩ = .some (.string (str x.name)) := HX.out.hp.cell 0
    have p1 : wc.cell? ⟨p, 1, none⟩ = .some (.slice Ax x.rules.length cx) := HX.out.hp.cell 1
    have q0 : wc.cell? ⟨q, 0, none⟩ = .some (.string (str x.name)) := HX.out.hq.cell 0
    have q1 : wc.cell? ⟨q, 1, none⟩ = .some (.slice Ay x.rules.length cy) := HX.out.hq.cell 1
    have hlx : x.rules.length ≤ 9223372036854775807 := by have := N1.out.len; simp only [maxLen] at this; exact this
    have hla : a.lists.length ≤ 9223372036854775807 := by have := HU3.out.len; simp only [maxLen] at this; exact this
    go_wp2_with fail
    clear p0 p1 q0 q1 H
    go_loopg [8] x.rules.length (fun gh ix wr => ∃ i : Nat, i + gh = x.rules.length ∧ ix = .int .i64 i ∧ Hid (SX a b w.heap.size (w.heap.size + 1) p q 94 #[.string (str x.name), .slice Ax x.rules.length cx] #[.string (str x.name), .slice Ay x.rules.length cy] w wr))
    case atStart => exact ⟨0, by omega, rfl, HX⟩
    case round =>
     clear HX
     obtain ⟨i, hi, rfl, HX⟩ := hrel
     by_cases hil : i < x.rules.length
     case pos =>
      obtain ⟨g3, o3, d3, e3, -, hg3, R3⟩ := N1.out.elem (n := 5) (by decide) (fun _ => rfl) hil
      obtain ⟨g4, o4, d4, e4, -, hg4, R4⟩ := N2.out.elem (n := 5) (by decide) (fun _ => rfl) hil
      injection e3 with f1 f2 f3
      injection e4 with f4 f5 f6
      subst f1 f3 f4 f6
      have r3 := hid (zAg R3 HX.out.sm.bel hg3)
      have r4 := hid (zAg R4 HX.out.sm.bel hg4)
      have hiz : (i : Int) < (x.rules.length : Int) := by omega
      have p1 : wr.cell? ⟨p, 1, none⟩ = .some (.slice (some ⟨g3, o3, none⟩) x.rules.length cx) := HX.out.hp.cell 1
      have q1 : wr.cell? ⟨q, 1, none⟩ = .some (.slice (some ⟨g4, o4, none⟩) x.rules.length cy) := HX.out.hq.cell 1
      generalize x.rules[i] = z at r3 r4
      clear R3 R4 f2 f5
      have ka0 : wr.cell? ⟨g3, o3 + i * 5, none⟩ = .some (.bool z.permit) := r3.out 0 _ rfl
      have ka1 : wr.cell? ⟨g3, o3 + i * 5 + 1, none⟩ = .some (.int .u32 (z.pa : Int)) := r3.out 1 _ rfl
      have ka2 : wr.cell? ⟨g3, o3 + i * 5 + 2, none⟩ = .some (.int .i64 z.pl) := r3.out 2 _ rfl
      have ka3 : wr.cell? ⟨g3, o3 + i * 5 + 3, none⟩ = .some (.int .i64 z.min) := r3.out 3 _ rfl
      have ka4 : wr.cell? ⟨g3, o3 + i * 5 + 4, none⟩ = .some (.int .i64 z.max) := r3.out 4 _ rfl
      have kb0 : wr.cell? ⟨g4, o4 + i * 5, none⟩ = .some (.bool z.permit) := r4.out 0 _ rfl
      have kb1 : wr.cell? ⟨g4, o4 + i * 5 + 1, none⟩ = .some (.int .u32 (z.pa : Int)) := r4.out 1 _ rfl
      have kb2 : wr.cell? ⟨g4, o4 + i * 5 + 2, none⟩ = .some (.int .i64 z.pl) := r4.out 2 _ rfl
      have kb3 : wr.cell? ⟨g4, o4 + i * 5 + 3, none⟩ = .some (.int .i64 z.min) := r4.out 3 _ rfl
      have kb4 : wr.cell? ⟨g4, o4 + i * 5 + 4, none⟩ = .some (.int .i64 z.max) := r4.out 4 _ rfl
      go_wp2_with fail
      go_still (by kernel_rfl)
      go_wp2_with fail
      go_roundg (x.rules.length - (i + 1))
      case measure => omega
      case rel => exact ⟨i + 1, by omega, by go_num, hid (HX.out.keep (zAo wr))⟩
     case neg =>
      have hiz : ¬ ((i : Int) < (x.rules.length : Int)) := by omega
      have p1 : wr.cell? ⟨p, 1, none⟩ = .some (.slice Ax x.rules.length cx) := HX.out.hp.cell 1
      go_wp2_with fail
      go_roundg (a.lists.length - (j + 1))
      case measure => omega
      case rel => exact ⟨j + 1, by omega, by go_num, hid HX.out.sm⟩
  case neg =>
   have hjz : ¬ ((j : Int) < (a.lists.length : Int)) := by omega
   have k5 : wr.cell? ⟨w.heap.size, 3, none⟩ = .some (.slice A3 a.lists.length c3) := by rw [← EA3.out]; exact H.out.ha.cell 3
   generalize wr = w90 at H k5 ⊢
   go_wp2_with fail
   clear k5 hjz hjl hj
   go_loopg [9] a.maps.length (fun gh ix wr => ∃ j : Nat, j + gh = a.maps.length ∧ ix = .int .i64 j ∧ Hid (SM a b w.heap.size (w.heap.size + 1) w wr))
   case atStart => exact ⟨0, by omega, rfl, H⟩
   case round =>
    clear H
    obtain ⟨j, hj, rfl, H⟩ := hrel
    by_cases hjl : j < a.maps.length
    case pos =>
     have hjb : j < b.maps.length := by rw [HL4.out]; exact hjl
     have hsm := same_maps HP.out hjl hjb
     obtain ⟨g1, o1, d1, e1, -, hg1, R1⟩ := HU4.out.elem (n := 2) (by decide) (fun _ => rfl) hjl
     obtain ⟨g2, o2, d2, e2, -, hg2, R2⟩ := HV4.out.elem (n := 2) (by decide) (fun _ => rfl) hjb
     have n1 := NU4.out _ (List.getElem_mem hjl)
     have n2 := NV4.out _ (List.getElem_mem hjb)
     rw [EA4.out] at e1
     rw [EB4.out] at e2
     injection e1 with f1 f2 f3
     injection e2 with f4 f5 f6
     subst f1 f3 f4 f6
     have r1 := hid (zAg R1 H.out.bel hg1)
     have r2 := hid (zAg R2 H.out.bel hg2)
     have lb1 : g1 < wr.heap.size := Nat.lt_of_lt_of_le hg1 H.out.bel.size
     have lb2 : g2 < wr.heap.size := Nat.lt_of_lt_of_le hg2 H.out.bel.size
     have lb3 : w.heap.size < wr.heap.size := zBf H.out.ha
     have lb4 : w.heap.size + 1 < wr.heap.size := zBf H.out.hb
     have hjz : (j : Int) < (a.maps.length : Int) := by omega
     clear R1 R2 f2 f5 hg1 hg2
     generalize a.maps[j] = x at r1 n1 hsm
     generalize b.maps[j] = y at r2 n2 hsm
     obtain ⟨ynm, yv, yr⟩ := y
     obtain ⟨hs1, hs2⟩ := hsm
     dsimp only at hs1 hs2
     subst hs1 hs2
     have N1 : Hid (SlV w w.heap.size 7 Cl.C x.v x.clauses) := hid n1
     have N2 : Hid (SlV w w.heap.size 7 Cl.C yv x.clauses) := hid n2
     obtain ⟨Ax, cx, ex, -⟩ := n1
     obtain ⟨Ay, cy, ey, -⟩ := n2
     rw [ex] at N1
     have ey2 : yv = .slice Ay x.clauses.length cy := ey
     rw [ey2] at N2
     have k1 : wr.cell? ⟨g1, o1 + j * 2, none⟩ = .some (.string (str x.name)) := r1.out 0 _ rfl
     have k2 : wr.cell? ⟨g1, o1 + j * 2 + 1, none⟩ = .some (.slice Ax x.clauses.length cx) := by rw [← ex]; exact r1.out 1 _ rfl
     have k3 : wr.cell? ⟨g2, o2 + j * 2, none⟩ = .some (.string (str x.name)) := r2.out 0 _ rfl
     have k4 : wr.cell? ⟨g2, o2 + j * 2 + 1, none⟩ = .some (.slice Ay x.clauses.length cy) := by rw [← ey2]; exact r2.out 1 _ rfl
     have k5 : wr.cell? ⟨w.heap.size, 4, none⟩ = .some (.slice (some ⟨g1, o1, none⟩) a.maps.length c4) := by rw [← EA4.out]; exact H.out.ha.cell 4
     have k6 : wr.cell? ⟨w.heap.size + 1, 4, none⟩ = .some (.slice (some ⟨g2, o2, none⟩) a.maps.length d4) := by rw [← EB4.out]; exact H.out.hb.cell 4
     clear r1 r2 ex ey ey2
     go_upto_region 17 with (fail)
     go_cut [10, 11] (fun x0 y0 wx => ∃ p q : Nat, x0 = .pointer (some ⟨p, 0, none⟩) ∧ y0 = .pointer (some ⟨q, 0, none⟩) ∧ SX a b w.heap.size (w.heap.size + 1) p q 99 #[.string (str x.name), .slice Ax x.clauses.length cx] #[.string (str x.name), .slice Ay x.clauses.length cy] w wx)
     case first =>
      have k1d : wr.drew.cell? ⟨g1, o1 + j * 2, none⟩ = .some (.string (str x.name)) := k1
      have k2d : wr.drew.cell? ⟨g1, o1 + j * 2 + 1, none⟩ = .some (.slice Ax x.clauses.length cx) := k2
      have k3d : wr.drew.cell? ⟨g2, o2 + j * 2, none⟩ = .some (.string (str x.name)) := k3
      have k4d : wr.drew.cell? ⟨g2, o2 + j * 2 + 1, none⟩ = .some (.slice Ay x.clauses.length cy) := k4
      have k5d : wr.drew.cell? ⟨w.heap.size, 4, none⟩ = .some (.slice (some ⟨g1, o1, none⟩) a.maps.length c4) := k5
      have k6d : wr.drew.cell? ⟨w.heap.size + 1, 4, none⟩ = .some (.slice (some ⟨g2, o2, none⟩) a.maps.length d4) := k6
      go_region_held3 (fun w' => w'.cell? ⟨g1, o1 + j * 2, none⟩ = .some (.string (str x.name)) ∧ w'.cell? ⟨g1, o1 + j * 2 + 1, none⟩ = .some (.slice Ax x.clauses.length cx) ∧ w'.cell? ⟨g2, o2 + j * 2, none⟩ = .some (.string (str x.name)) ∧ w'.cell? ⟨g2, o2 + j * 2 + 1, none⟩ = .some (.slice Ay x.clauses.length cy) ∧ w'.cell? ⟨w.heap.size, 4, none⟩ = .some (.slice (some ⟨g1, o1, none⟩) a.maps.length c4) ∧ w'.cell? ⟨w.heap.size + 1, 4, none⟩ = .some (.slice (some ⟨g2, o2, none⟩) a.maps.length d4)) (first | (with_reducible exact ⟨k1d, k2d, k3d, k4d, k5d, k6d⟩) | go_keep | (refine ⟨?_, ?_, ?_, ?_, ?_, ?_⟩ <;> ((repeat first | rw [World.cell?_setCell_other _ _ _ _ (by intro h; simp only [Addr.mk.injEq] at h; omega)] | rw [World.cell?_alloc_lt _ _ _ (by first | assumption | (simp; omega))]); assumption))) (fail)
      all_goals
       go_wp2_with fail
       go_meet
       first | exact ⟨wr.heap.size, wr.heap.size + 1, rfl, rfl, ⟨H.out.keep (zCm wr 99 #[.string (str x.name), .slice Ax x.clauses.length cx] #[.string (str x.name), .slice Ay x.clauses.length cy]).2.2, (zCm wr 99 #[.string (str x.name), .slice Ax x.clauses.length cx] #[.string (str x.name), .slice Ay x.clauses.length cy]).1, (zCm wr 99 #[.string (str x.name), .slice Ax x.clauses.length cx] #[.string (str x.name), .slice Ay x.clauses.length cy]).2.1⟩⟩ | exact ⟨wr.heap.size + 1, wr.heap.size, rfl, rfl, ⟨H.out.keep (zCm wr 99 #[.string (str x.name), .slice Ay x.clauses.length cy] #[.string (str x.name), .slice Ax x.clauses.length cx]).2.2, (zCm wr 99 #[.string (str x.name), .slice Ay x.clauses.length cy] #[.string (str x.name), .slice Ax x.clauses.length cx]).2.1, (zCm wr 99 #[.string (str x.name), .slice Ay x.clauses.length cy] #[.string (str x.name), .slice Ax x.clauses.length cx]).1⟩⟩
     case rest =>
      obtain ⟨p, q, rfl, rfl, hx⟩ := hcut
      have HX := hid hx
      clear hx k1 k2 k3 k4 k5 k6 lb1 lb2 lb3 lb4
      have p0 : wc.cell? ⟨p, 0, none⟩ = .some (.string (str x.name)) := HX.out.hp.cell 0
      have p1 : wc.cell? ⟨p, 1, none⟩ = .some (.slice Ax x.clauses.length cx) := HX.out.hp.cell 1
      have q0 : wc.cell? ⟨q, 0, none⟩ = .some (.string (str x.name)) := HX.out.hq.cell 0
      have q1 : wc.cell? ⟨q, 1, none⟩ = .some (.slice Ay x.clauses.length cy) := HX.out.hq.cell 1
      have hlx : x.clauses.length ≤ 9223372036854775807 := by have := N1.out.len; simp only [maxLen] at this; exact this
      have hla : a.maps.length ≤ 9223372036854775807 := by have := HU4.out.len; simp only [maxLen] at this; exact this
      go_wp2_with fail
      clear p0 p1 q0 q1 H
      go_loopg [12] x.clauses.length (fun gh ix wr => ∃ i : Nat, i + gh = x.clauses.length ∧ ix = .int .i64 i ∧ Hid (SX a b w.heap.size (w.heap.size + 1) p q 99 #[.string (str x.name), .slice Ax x.clauses.length cx] #[.string (str x.name), .slice Ay x.clauses.length cy] w wr))
      case atStart => exact ⟨0, by omega, rfl, HX⟩
      case round =>
       clear HX
       obtain ⟨i, hi, rfl, HX⟩ := hrel
       by_cases hil : i < x.clauses.length
       case pos =>
        obtain ⟨g3, o3, d3, e3, -, hg3, R3⟩ := N1.out.elem (n := 7) (by decide) (fun _ => rfl) hil
        obtain ⟨g4, o4, d4, e4, -, hg4, R4⟩ := N2.out.elem (n := 7) (by decide) (fun _ => rfl) hil
        injection e3 with f1 f2 f3
        injection e4 with f4 f5 f6
        subst f1 f3 f4 f6
        have r3 := hid (zAg R3 HX.out.sm.bel hg3)
        have r4 := hid (zAg R4 HX.out.sm.bel hg4)
        have hiz : (i : Int) < (x.clauses.length : Int) := by omega
        have p1 : wr.cell? ⟨p, 1, none⟩ = .some (.slice (some ⟨g3, o3, none⟩) x.clauses.length cx) := HX.out.hp.cell 1
        have q1 : wr.cell? ⟨q, 1, none⟩ = .some (.slice (some ⟨g4, o4, none⟩) x.clauses.length cy) := HX.out.hq.cell 1
        generalize x.clauses[i] = z at r3 r4
        clear R3 R4 f2 f5
        have ka0 : wr.cell? ⟨g3, o3 + i * 7, none⟩ = .some (.bool z.permit) := r3.out 0 _ rfl
        have ka1 : wr.cell? ⟨g3, o3 + i * 7 + 1, none⟩ = .some (.string (str z.list)) := r3.out 1 _ rfl
        have ka2 : wr.cell? ⟨g3, o3 + i * 7 + 2, none⟩ = .some (.int .i64 z.tag) := r3.out 2 _ rfl
        have ka3 : wr.cell? ⟨g3, o3 + i * 7 + 3, none⟩ = .some (.int .i64 z.setM) := r3.out 3 _ rfl
        have ka4 : wr.cell? ⟨g3, o3 + i * 7 + 4, none⟩ = .some (.int .i64 z.setT) := r3.out 4 _ rfl
        have ka5 : wr.cell? ⟨g3, o3 + i * 7 + 5, none⟩ = .some (.int .i64 z.setP) := r3.out 5 _ rfl
        have ka6 : wr.cell? ⟨g3, o3 + i * 7 + 6, none⟩ = .some (.int .i64 z.prep) := r3.out 6 _ rfl
        have kb0 : wr.cell? ⟨g4, o4 + i * 7, none⟩ = .some (.bool z.permit) := r4.out 0 _ rfl
        have kb1 : wr.cell? ⟨g4, o4 + i * 7 + 1, none⟩ = .some (.string (str z.list)) := r4.out 1 _ rfl
        have kb2 : wr.cell? ⟨g4, o4 + i * 7 + 2, none⟩ = .some (.int .i64 z.tag) := r4.out 2 _ rfl
        have kb3 : wr.cell? ⟨g4, o4 + i * 7 + 3, none⟩ = .some (.int .i64 z.setM) := r4.out 3 _ rfl
        have kb4 : wr.cell? ⟨g4, o4 + i * 7 + 4, none⟩ = .some (.int .i64 z.setT) := r4.out 4 _ rfl
        have kb5 : wr.cell? ⟨g4, o4 + i * 7 + 5, none⟩ = .some (.int .i64 z.setP) := r4.out 5 _ rfl
        have kb6 : wr.cell? ⟨g4, o4 + i * 7 + 6, none⟩ = .some (.int .i64 z.prep) := r4.out 6 _ rfl
        go_wp2_with fail
        go_still (by kernel_rfl)
        go_wp2_with fail
        go_roundg (x.clauses.length - (i + 1))
        case measure => omega
        case rel => exact ⟨i + 1, by omega, by go_num, hid (HX.out.keep (zAo wr))⟩
       case neg =>
        have hiz : ¬ ((i : Int) < (x.clauses.length : Int)) := by omega
        have p1 : wr.cell? ⟨p, 1, none⟩ = .some (.slice Ax x.clauses.length cx) := HX.out.hp.cell 1
        go_wp2_with fail
        go_roundg (a.maps.length - (j + 1))
        case measure => omega
        case rel => exact ⟨j + 1, by omega, by go_num, hid HX.out.sm⟩
    case neg =>
     have hjz : ¬ ((j : Int) < (a.maps.length : Int)) := by omega
     have k5 : wr.cell? ⟨w.heap.size, 4, none⟩ = .some (.slice A4 a.maps.length c4) := by rw [← EA4.out]; exact H.out.ha.cell 4
     generalize wr = w91 at H k5 ⊢
     go_wp2_with fail
     clear k5 hjz hjl hj
     go_loopg [13] a.acls.length (fun gh ix wr => ∃ j : Nat, j + gh = a.acls.length ∧ ix = .int .i64 j ∧ Hid (SM a b w.heap.size (w.heap.size + 1) w wr))
     case atStart => exact ⟨0, by omega, rfl, H⟩
     case round =>
      clear H
      obtain ⟨j, hj, rfl, H⟩ := hrel
      by_cases hjl : j < a.acls.length
      case pos =>
       have hjb : j < b.acls.length := by rw [HL5.out]; exact hjl
       have hsm := same_acls HP.out hjl hjb
       obtain ⟨g1, o1, d1, e1, -, hg1, R1⟩ := HU5.out.elem (n := 2) (by decide) (fun _ => rfl) hjl
       obtain ⟨g2, o2, d2, e2, -, hg2, R2⟩ := HV5.out.elem (n := 2) (by decide) (fun _ => rfl) hjb
       have n1 := NU5.out _ (List.getElem_mem hjl)
       have n2 := NV5.out _ (List.getElem_mem hjb)
       rw [EA5.out] at e1
       rw [EB5.out] at e2
       injection e1 with f1 f2 f3
       injection e2 with f4 f5 f6
       subst f1 f3 f4 f6
       have r1 := hid (zAg R1 H.out.bel hg1)
       have r2 := hid (zAg R2 H.out.bel hg2)
       have lb1 : g1 < wr.heap.size := Nat.lt_of_lt_of_le hg1 H.out.bel.size
       have lb2 : g2 < wr.heap.size := Nat.lt_of_lt_of_le hg2 H.out.bel.size
       have lb3 : w.heap.size < wr.heap.size := zBf H.out.ha
       have lb4 : w.heap.size + 1 < wr.heap.size := zBf H.out.hb
       have hjz : (j : Int) < (a.acls.length : Int) := by omega
       clear R1 R2 f2 f5 hg1 hg2
       generalize a.acls[j] = x at r1 n1 hsm
       generalize b.acls[j] = y at r2 n2 hsm
       obtain ⟨ynm, yv, yr⟩ := y
       obtain ⟨hs1, hs2⟩ := hsm
       dsimp only at hs1 hs2
       subst hs1 hs2
       have N1 : Hid (SlV w w.heap.size 10 Ru.C x.v x.rules) := hid n1
       have N2 : Hid (SlV w w.heap.size 10 Ru.C yv x.rules) := hid n2
       obtain ⟨Ax, cx, ex, -⟩ := n1
       obtain ⟨Ay, cy, ey, -⟩ := n2
       rw [ex] at N1
       have ey2 : yv = .slice Ay x.rules.length cy := ey
       rw [ey2] at N2
       have k1 : wr.cell? ⟨g1, o1 + j * 2, none⟩ = .some (.string (str x.name)) := r1.out 0 _ rfl
       have k2 : wr.cell? ⟨g1, o1 + j * 2 + 1, none⟩ = .some (.slice Ax x.rules.length cx) := by rw [← ex]; exact r1.out 1 _ rfl
       have k3 : wr.cell? ⟨g2, o2 + j * 2, none⟩ = .some (.string (str x.name)) := r2.out 0 _ rfl
       have k4 : wr.cell? ⟨g2, o2 + j * 2 + 1, none⟩ = .some (.slice Ay x.rules.length cy) := by rw [← ey2]; exact r2.out 1 _ rfl
       have k5 : wr.cell? ⟨w.heap.size, 5, none⟩ = .some (.slice (some ⟨g1, o1, none⟩) a.acls.length c5) := by rw [← EA5.out]; exact H.out.ha.cell 5
       have k6 : wr.cell? ⟨w.heap.size + 1, 5, none⟩ = .some (.slice (some ⟨g2, o2, none⟩) a.acls.length d5) := by rw [← EB5.out]; exact H.out.hb.cell 5
       clear r1 r2 ex ey ey2
       go_upto_region 28 with (fail)
       go_cut [14, 15] (fun x0 y0 wx => ∃ p q : Nat, x0 = .pointer (some ⟨p, 0, none⟩) ∧ y0 = .pointer (some ⟨q, 0, none⟩) ∧ SX a b w.heap.size (w.heap.size + 1) p q 104 #[.string (str x.name), .slice Ax x.rules.length cx] #[.string (str x.name), .slice Ay x.rules.length cy] w wx)
       case first =>
        have k1d : wr.drew.cell? ⟨g1, o1 + j * 2, none⟩ = .some (.string (str x.name)) := k1
        have k2d : wr.drew.cell? ⟨g1, o1 + j * 2 + 1, none⟩ = .some (.slice Ax x.rules.length cx) := k2
        have k3d : wr.drew.cell? ⟨g2, o2 + j * 2, none⟩ = .some (.string (str x.name)) := k3
        have k4d : wr.drew.cell? ⟨g2, o2 + j * 2 + 1, none⟩ = .some (.slice Ay x.rules.length cy) := k4
        have k5d : wr.drew.cell? ⟨w.heap.size, 5, none⟩ = .some (.slice (some ⟨g1, o1, none⟩) a.acls.length c5) := k5
        have k6d : wr.drew.cell? ⟨w.heap.size + 1, 5, none⟩ = .some (.slice (some ⟨g2, o2, none⟩) a.acls.length d5) := k6
        go_region_held3 (fun w' => w'.cell? ⟨g1, o1 + j * 2, none⟩ = .some (.string (str x.name)) ∧ w'.cell? ⟨g1, o1 + j * 2 + 1, none⟩ = .some (.slice Ax x.rules.length cx) ∧ w'.cell? ⟨g2, o2 + j * 2, none⟩ = .some (.string (str x.name)) ∧ w'.cell? ⟨g2, o2 + j * 2 + 1, none⟩ = .some (.slice Ay x.rules.length cy) ∧ w'.cell? ⟨w.heap.size, 5, none⟩ = .some (.slice (some ⟨g1, o1, none⟩) a.acls.length c5) ∧ w'.cell? ⟨w.heap.size + 1, 5, none⟩ = .some (.slice (some ⟨g2, o2, none⟩) a.acls.length d5)) (first | (with_reducible exact ⟨k1d, k2d, k3d, k4d, k5d, k6d⟩) | go_keep | (refine ⟨?_, ?_, ?_, ?_, ?_, ?_⟩ <;> ((repeat first | rw [World.cell?_setCell_other _ _ _ _ (by intro h; simp only [Addr.mk.injEq] at h; omega)] | rw [World.cell?_alloc_lt _ _ _ (by first | assumption | (simp; omega))]); assumption))) (fail)
        all_goals
         go_wp2_with fail
         go_meet
         first | exact ⟨wr.heap.size, wr.heap.size + 1, rfl, rfl, ⟨H.out.keep (zCm wr 104 #[.string (str x.name), .slice Ax x.rules.length cx] #[.string (str x.name), .slice Ay x.rules.length cy]).2.2, (zCm wr 104 #[.string (str x.name), .slice Ax x.rules.length cx] #[.string (str x.name), .slice Ay x.rules.length cy]).1, (zCm wr 104 #[.string (str x.name), .slice Ax x.rules.length cx] #[.string (str x.name), .slice Ay x.rules.length cy]).2.1⟩⟩ | exact ⟨wr.heap.size + 1, wr.heap.size, rfl, rfl, ⟨H.out.keep (zCm wr 104 #[.string (str x.name), .slice Ay x.rules.length cy] #[.string (str x.name), .slice Ax x.rules.length cx]).2.2, (zCm wr 104 #[.string (str x.name), .slice Ay x.rules.length cy] #[.string (str x.name), .slice Ax x.rules.length cx]).2.1, (zCm wr 104 #[.string (str x.name), .slice Ay x.rules.length cy] #[.string (str x.name), .slice Ax x.rules.length cx]).1⟩⟩
       case rest =>
        obtain ⟨p, q, rfl, rfl, hx⟩ := hcut
        have HX := hid hx
        clear hx k1 k2 k3 k4 k5 k6 lb1 lb2 lb3 lb4
        have p0 : wc.cell? ⟨p, 0, none⟩ = .some (.string (str x.name)) := HX.out.hp.cell 0
        have p1 : wc.cell? ⟨p, 1, none⟩ = .some (.slice Ax x.rules.length cx) := HX.out.hp.cell 1
        have q0 : wc.cell? ⟨q, 0, none⟩ = .some (.string (str x.name)) := HX.out.hq.cell 0
        have q1 : wc.cell? ⟨q, 1, none⟩ = .some (.slice Ay x.rules.length cy) := HX.out.hq.cell 1
        have hlx : x.rules.length ≤ 9223372036854775807 := by have := N1.out.len; simp only [maxLen] at this; exact this
        have hla : a.acls.length ≤ 9223372036854775807 := by have := HU5.out.len; simp only [maxLen] at this; exact this
        go_wp2_with fail
        clear p0 p1 q0 q1 H
        go_loopg [16] x.rules.length (fun gh ix wr => ∃ i : Nat, i + gh = x.rules.length ∧ ix = .int .i64 i ∧ Hid (SX a b w.heap.size (w.heap.size + 1) p q 104 #[.string (str x.name), .slice Ax x.rules.length cx] #[.string (str x.name), .slice Ay x.rules.length cy] w wr))
        case atStart => exact ⟨0, by omega, rfl, HX⟩
        case round =>
         clear HX
         obtain ⟨i, hi, rfl, HX⟩ := hrel
         by_cases hil : i < x.rules.length
         case pos =>
          obtain ⟨g3, o3, d3, e3, -, hg3, R3⟩ := N1.out.elem (n := 10) (by decide) (fun _ => rfl) hil
          obtain ⟨g4, o4, d4, e4, -, hg4, R4⟩ := N2.out.elem (n := 10) (by decide) (fun _ => rfl) hil
          injection e3 with f1 f2 f3
          injection e4 with f4 f5 f6
          subst f1 f3 f4 f6
          have r3 := hid (zAg R3 HX.out.sm.bel hg3)
          have r4 := hid (zAg R4 HX.out.sm.bel hg4)
          have hiz : (i : Int) < (x.rules.length : Int) := by omega
          have p1 : wr.cell? ⟨p, 1, none⟩ = .some (.slice (some ⟨g3, o3, none⟩) x.rules.length cx) := HX.out.hp.cell 1
          have q1 : wr.cell? ⟨q, 1, none⟩ = .some (.slice (some ⟨g4, o4, none⟩) x.rules.length cy) := HX.out.hq.cell 1
          generalize x.rules[i] = z at r3 r4
          clear R3 R4 f2 f5
          have ka0 : wr.cell? ⟨g3, o3 + i * 10, none⟩ = .some (.bool z.permit) := r3.out 0 _ rfl
          have ka1 : wr.cell? ⟨g3, o3 + i * 10 + 1, none⟩ = .some (.int .i64 z.proto) := r3.out 1 _ rfl
          have ka2 : wr.cell? ⟨g3, o3 + i * 10 + 2, none⟩ = .some (.int .u32 (z.sa : Int)) := r3.out 2 _ rfl
          have ka3 : wr.cell? ⟨g3, o3 + i * 10 + 3, none⟩ = .some (.int .u32 (z.sm : Int)) := r3.out 3 _ rfl
          have ka4 : wr.cell? ⟨g3, o3 + i * 10 + 4, none⟩ = .some (.int .u32 (z.da : Int)) := r3.out 4 _ rfl
          have ka5 : wr.cell? ⟨g3, o3 + i * 10 + 5, none⟩ = .some (.int .u32 (z.dm : Int)) := r3.out 5 _ rfl
          have ka6 : wr.cell? ⟨g3, o3 + i * 10 + 6, none⟩ = .some (.int .i64 z.slo) := r3.out 6 _ rfl
          have ka7 : wr.cell? ⟨g3, o3 + i * 10 + 7, none⟩ = .some (.int .i64 z.shi) := r3.out 7 _ rfl
          have ka8 : wr.cell? ⟨g3, o3 + i * 10 + 8, none⟩ = .some (.int .i64 z.dlo) := r3.out 8 _ rfl
          have ka9 : wr.cell? ⟨g3, o3 + i * 10 + 9, none⟩ = .some (.int .i64 z.dhi) := r3.out 9 _ rfl
          have kb0 : wr.cell? ⟨g4, o4 + i * 10, none⟩ = .some (.bool z.permit) := r4.out 0 _ rfl
          have kb1 : wr.cell? ⟨g4, o4 + i * 10 + 1, none⟩ = .some (.int .i64 z.proto) := r4.out 1 _ rfl
          have kb2 : wr.cell? ⟨g4, o4 + i * 10 + 2, none⟩ = .some (.int .u32 (z.sa : Int)) := r4.out 2 _ rfl
          have kb3 : wr.cell? ⟨g4, o4 + i * 10 + 3, none⟩ = .some (.int .u32 (z.sm : Int)) := r4.out 3 _ rfl
          have kb4 : wr.cell? ⟨g4, o4 + i * 10 + 4, none⟩ = .some (.int .u32 (z.da : Int)) := r4.out 4 _ rfl
          have kb5 : wr.cell? ⟨g4, o4 + i * 10 + 5, none⟩ = .some (.int .u32 (z.dm : Int)) := r4.out 5 _ rfl
          have kb6 : wr.cell? ⟨g4, o4 + i * 10 + 6, none⟩ = .some (.int .i64 z.slo) := r4.out 6 _ rfl
          have kb7 : wr.cell? ⟨g4, o4 + i * 10 + 7, none⟩ = .some (.int .i64 z.shi) := r4.out 7 _ rfl
          have kb8 : wr.cell? ⟨g4, o4 + i * 10 + 8, none⟩ = .some (.int .i64 z.dlo) := r4.out 8 _ rfl
          have kb9 : wr.cell? ⟨g4, o4 + i * 10 + 9, none⟩ = .some (.int .i64 z.dhi) := r4.out 9 _ rfl
          go_wp2_with fail
          go_still (by kernel_rfl)
          go_wp2_with fail
          go_roundg (x.rules.length - (i + 1))
          case measure => omega
          case rel => exact ⟨i + 1, by omega, by go_num, hid (HX.out.keep (zAo wr))⟩
         case neg =>
          have hiz : ¬ ((i : Int) < (x.rules.length : Int)) := by omega
          have p1 : wr.cell? ⟨p, 1, none⟩ = .some (.slice Ax x.rules.length cx) := HX.out.hp.cell 1
          go_wp2_with fail
          go_roundg (a.acls.length - (j + 1))
          case measure => omega
          case rel => exact ⟨j + 1, by omega, by go_num, hid HX.out.sm⟩
      case neg =>
       have hjz : ¬ ((j : Int) < (a.acls.length : Int)) := by omega
       have k5 : wr.cell? ⟨w.heap.size, 5, none⟩ = .some (.slice A5 a.acls.length c5) := by rw [← EA5.out]; exact H.out.ha.cell 5
       go_wp2_with fail
       go_ret
       exact ⟨rfl, H.out.bel⟩
theorem zJt (a b : Rt) (w : World) (B : Nat) (hat : a.at w B) (hbt : b.at w B) (hB : B ≤ w.heap.size) (hp : a.plain = b.plain) :
  Calls Tryz.prog 19 #[.agg a.C, .agg b.C] w fun e w' => e = .returned (.bool true) ∧ Below w.heap.size w w' := by
 have hal := hat.lift hB
 have hbl := hbt.lift hB
 have HP := hid hp
 have H0 := hid (SM.start a b w)
 have EF8 : Hid (b.lsOn = a.lsOn) := hid (congrArg Rt.lsOn hp).symm
 have EF9 : Hid (b.lsAdmin = a.lsAdmin) := hid (congrArg Rt.lsAdmin hp).symm
 have EF10 : Hid (b.ranges = a.ranges) := hid (congrArg Rt.ranges hp).symm
 have HU10 := hid hal.hranges
 have HV10 : Hid (SlV w w.heap.size 3 AR.C b.rangesV a.ranges) := hid (by rw [← EF10.out]; exact hbl.hranges)
 obtain ⟨A10, c10, ea10, -⟩ := HU10.out
 obtain ⟨D10, d10, eb10, -⟩ := HV10.out
 have EA10 := hid ea10
 have EB10 := hid eb10
 clear ea10 eb10
 have EF11 : Hid (b.lsRed = a.lsRed) := hid (congrArg Rt.lsRed hp).symm
 have HU11 := hid hal.hlsRed
 have HV11 : Hid (SlV w w.heap.size 5 Rd.C b.lsRedV a.lsRed) := hid (by rw [← EF11.out]; exact hbl.hlsRed)
 obtain ⟨A11, c11, ea11, -⟩ := HU11.out
 obtain ⟨D11, d11, eb11, -⟩ := HV11.out
 have EA11 := hid ea11
 have EB11 := hid eb11
 clear ea11 eb11
 have EF12 : Hid (b.dvOn = a.dvOn) := hid (congrArg Rt.dvOn hp).symm
 have EF13 : Hid (b.dvAdmin = a.dvAdmin) := hid (congrArg Rt.dvAdmin hp).symm
 have EF14 : Hid (b.dvIn = a.dvIn) := hid (congrArg Rt.dvIn hp).symm
 have EF15 : Hid (b.dvOut = a.dvOut) := hid (congrArg Rt.dvOut hp).symm
 have EF16 : Hid (b.dvRed = a.dvRed) := hid (congrArg Rt.dvRed hp).symm
 have HU16 := hid hal.hdvRed
 have HV16 : Hid (SlV w w.heap.size 5 Rd.C b.dvRedV a.dvRed) := hid (by rw [← EF16.out]; exact hbl.hdvRed)
 obtain ⟨A16, c16, ea16, -⟩ := HU16.out
 obtain ⟨D16, d16, eb16, -⟩ := HV16.out
 have EA16 := hid ea16
 have EB16 := hid eb16
 clear ea16 eb16
 have EF17 : Hid (b.pvOn = a.pvOn) := hid (congrArg Rt.pvOn hp).symm
 have EF18 : Hid (b.ext = a.ext) := hid (congrArg Rt.ext hp).symm
 have EF19 : Hid (b.int = a.int) := hid (congrArg Rt.int hp).symm
 have EF20 : Hid (b.nb = a.nb) := hid (congrArg Rt.nb hp).symm
 have HU20 := hid hal.hnb
 have HV20 : Hid (SlV w w.heap.size 4 Nb.C b.nbV a.nb) := hid (by rw [← EF20.out]; exact hbl.hnb)
 obtain ⟨A20, c20, ea20, -⟩ := HU20.out
 obtain ⟨D20, d20, eb20, -⟩ := HV20.out
 have EA20 := hid ea20
 have EB20 := hid eb20
 clear ea20 eb20
 have EF21 : Hid (b.net = a.net) := hid (congrArg Rt.net hp).symm
 have HU21 := hid hal.hnet
 have HV21 : Hid (SlV w w.heap.size 2 Pf.C b.netV a.net) := hid (by rw [← EF21.out]; exact hbl.hnet)
 obtain ⟨A21, c21, ea21, -⟩ := HU21.out
 obtain ⟨D21, d21, eb21, -⟩ := HV21.out
 have EA21 := hid ea21
 have EB21 := hid eb21
 clear ea21 eb21
 have EF22 : Hid (b.ag = a.ag) := hid (congrArg Rt.ag hp).symm
 have HU22 := hid hal.hag
 have HV22 : Hid (SlV w w.heap.size 3 Ag.C b.agV a.ag) := hid (by rw [← EF22.out]; exact hbl.hag)
 obtain ⟨A22, c22, ea22, -⟩ := HU22.out
 obtain ⟨D22, d22, eb22, -⟩ := HV22.out
 have EA22 := hid ea22
 have EB22 := hid eb22
 clear ea22 eb22
 have EF23 : Hid (b.cd = a.cd) := hid (congrArg Rt.cd hp).symm
 have HU23 := hid hal.hcd
 have HV23 : Hid (SlV w w.heap.size 5 Cd.C b.cdV a.cd) := hid (by rw [← EF23.out]; exact hbl.hcd)
 obtain ⟨A23, c23, ea23, -⟩ := HU23.out
 obtain ⟨D23, d23, eb23, -⟩ := HV23.out
 have EA23 := hid ea23
 have EB23 := hid eb23
 clear ea23 eb23
 have EF24 : Hid (b.pvRed = a.pvRed) := hid (congrArg Rt.pvRed hp).symm
 have HU24 := hid hal.hpvRed
 have HV24 : Hid (SlV w w.heap.size 5 Rd.C b.pvRedV a.pvRed) := hid (by rw [← EF24.out]; exact hbl.hpvRed)
 obtain ⟨A24, c24, ea24, -⟩ := HU24.out
 obtain ⟨D24, d24, eb24, -⟩ := HV24.out
 have EA24 := hid ea24
 have EB24 := hid eb24
 clear ea24 eb24
 have ca8 : ((w.alloc (.cells a.C 41)).alloc (.cells b.C 41)).cell? ⟨w.heap.size, 8, none⟩ = .some (.bool a.lsOn) := H0.out.ha.cell 8
 have cb8 : ((w.alloc (.cells a.C 41)).alloc (.cells b.C 41)).cell? ⟨w.heap.size + 1, 8, none⟩ = .some (.bool a.lsOn) := by rw [← EF8.out]; exact H0.out.hb.cell 8
 have ca9 : ((w.alloc (.cells a.C 41)).alloc (.cells b.C 41)).cell? ⟨w.heap.size, 9, none⟩ = .some (.int .i64 a.lsAdmin) := H0.out.ha.cell 9
 have cb9 : ((w.alloc (.cells a.C 41)).alloc (.cells b.C 41)).cell? ⟨w.heap.size + 1, 9, none⟩ = .some (.int .i64 a.lsAdmin) := by rw [← EF9.out]; exact H0.out.hb.cell 9
 have ca10 : ((w.alloc (.cells a.C 41)).alloc (.cells b.C 41)).cell? ⟨w.heap.size, 10, none⟩ = .some (.slice A10 a.ranges.length c10) := by rw [← EA10.out]; exact H0.out.ha.cell 10
 have cb10 : ((w.alloc (.cells a.C 41)).alloc (.cells b.C 41)).cell? ⟨w.heap.size + 1, 10, none⟩ = .some (.slice D10 a.ranges.length d10) := by rw [← EB10.out]; exact H0.out.hb.cell 10
 have ca11 : ((w.alloc (.cells a.C 41)).alloc (.cells b.C 41)).cell? ⟨w.heap.size, 11, none⟩ = .some (.slice A11 a.lsRed.length c11) := by rw [← EA11.out]; exact H0.out.ha.cell 11
 have cb11 : ((w.alloc (.cells a.C 41)).alloc (.cells b.C 41)).cell? ⟨w.heap.size + 1, 11, none⟩ = .some (.slice D11 a.lsRed.length d11) := by rw [← EB11.out]; exact H0.out.hb.cell 11
 have HRL := hid (fun (W : World) (hW : SM a b w.heap.size (w.heap.size + 1) w W) => zGb a.lsRedV b.lsRedV a.lsRed W w.heap.size (HU11.out.below hW.bel) (HV11.out.below hW.bel) hW.bel.size)
 have HRD := hid (fun (W : World) (hW : SM a b w.heap.size (w.heap.size + 1) w W) => zGb a.dvRedV b.dvRedV a.dvRed W w.heap.size (HU16.out.below hW.bel) (HV16.out.below hW.bel) hW.bel.size)
 have HRP := hid (fun (W : World) (hW : SM a b w.heap.size (w.heap.size + 1) w W) => zGb a.pvRedV b.pvRedV a.pvRed W w.heap.size (HU24.out.below hW.bel) (HV24.out.below hW.bel) hW.bel.size)
 rw [EA11.out, EB11.out] at HRL
 rw [EA16.out, EB16.out] at HRD
 rw [EA24.out, EB24.out] at HRP
 clear hal hbl hat hbt hp
 go_enter Tryz.func19, Tryz.ntmps19
 go_wp2_with fail
 refine (HRL.out _ H0.out).mono ?_
 rintro e w3 ⟨rfl, hb3⟩
 have H3 := hid (H0.out.keep hb3)
 clear hb3 H0 ca8 cb8 ca9 cb9 ca10 cb10 ca11 cb11
 go_wp2_with fail
 go_loopg [5] a.ranges.length (fun gh ix wr => ∃ i : Nat, i + gh = a.ranges.length ∧ ix = .int .i64 i ∧ Hid (SM a b w.heap.size (w.heap.size + 1) w wr))
 case atStart => exact ⟨0, by omega, rfl, H3⟩
 case round =>
  clear H3
  obtain ⟨i, hi, rfl, H⟩ := hrel
  have hlx : a.ranges.length ≤ 9223372036854775807 := by have := HU10.out.len; simp only [maxLen] at this; exact this
  by_cases hil : i < a.ranges.length
  case pos =>
   obtain ⟨g3, o3, x3, e3, -, hg3, R3⟩ := HU10.out.elem (n := 3) (by decide) (fun _ => rfl) hil
   obtain ⟨g4, o4, x4, e4, -, hg4, R4⟩ := HV10.out.elem (n := 3) (by decide) (fun _ => rfl) hil
   rw [EA10.out] at e3
   rw [EB10.out] at e4
   injection e3 with f1 f2 f3
   injection e4 with f4 f5 f6
   subst f1 f3 f4 f6
   have r3 := hid (zAg R3 H.out.bel hg3)
   have r4 := hid (zAg R4 H.out.bel hg4)
   have hiz : (i : Int) < (a.ranges.length : Int) := by omega
   have ca10 : wr.cell? ⟨w.heap.size, 10, none⟩ = .some (.slice (some ⟨g3, o3, none⟩) a.ranges.length c10) := by rw [← EA10.out]; exact H.out.ha.cell 10
   have cb10 : wr.cell? ⟨w.heap.size + 1, 10, none⟩ = .some (.slice (some ⟨g4, o4, none⟩) a.ranges.length d10) := by rw [← EB10.out]; exact H.out.hb.cell 10
   generalize a.ranges[i] = z at r3 r4
   clear R3 R4 f2 f5
   have ka0 : wr.cell? ⟨g3, o3 + i * 3, none⟩ = .some (.int .i64 z.area) := r3.out 0 _ rfl
   have ka1 : wr.cell? ⟨g3, o3 + i * 3 + 1, none⟩ = .some (.int .u32 (z.pa : Int)) := r3.out 1 _ rfl
   have ka2 : wr.cell? ⟨g3, o3 + i * 3 + 2, none⟩ = .some (.int .i64 z.pl) := r3.out 2 _ rfl
   have kb0 : wr.cell? ⟨g4, o4 + i * 3, none⟩ = .some (.int .i64 z.area) := r4.out 0 _ rfl
   have kb1 : wr.cell? ⟨g4, o4 + i * 3 + 1, none⟩ = .some (.int .u32 (z.pa : Int)) := r4.out 1 _ rfl
   have kb2 : wr.cell? ⟨g4, o4 + i * 3 + 2, none⟩ = .some (.int .i64 z.pl) := r4.out 2 _ rfl
   go_wp2_with fail
   go_still (by kernel_rfl)
   go_wp2_with fail
   go_roundg (a.ranges.length - (i + 1))
   case measure => omega
   case rel => exact ⟨i + 1, by omega, by go_num, hid (H.out.keep (zAo wr))⟩
  case neg =>
   have hiz : ¬ ((i : Int) < (a.ranges.length : Int)) := by omega
   clear hlx
   have ca12 : wr.cell? ⟨w.heap.size, 12, none⟩ = .some (.bool a.dvOn) := H.out.ha.cell 12
   have cb12 : wr.cell? ⟨w.heap.size + 1, 12, none⟩ = .some (.bool a.dvOn) := by rw [← EF12.out]; exact H.out.hb.cell 12
   have ca13 : wr.cell? ⟨w.heap.size, 13, none⟩ = .some (.int .i64 a.dvAdmin) := H.out.ha.cell 13
   have cb13 : wr.cell? ⟨w.heap.size + 1, 13, none⟩ = .some (.int .i64 a.dvAdmin) := by rw [← EF13.out]; exact H.out.hb.cell 13
   have ca14 : wr.cell? ⟨w.heap.size, 14, none⟩ = .some (.string (str a.dvIn)) := H.out.ha.cell 14
   have cb14 : wr.cell? ⟨w.heap.size + 1, 14, none⟩ = .some (.string (str a.dvIn)) := by rw [← EF14.out]; exact H.out.hb.cell 14
   have ca15 : wr.cell? ⟨w.heap.size, 15, none⟩ = .some (.string (str a.dvOut)) := H.out.ha.cell 15
   have cb15 : wr.cell? ⟨w.heap.size + 1, 15, none⟩ = .some (.string (str a.dvOut)) := by rw [← EF15.out]; exact H.out.hb.cell 15
   have ca16 : wr.cell? ⟨w.heap.size, 16, none⟩ = .some (.slice A16 a.dvRed.length c16) := by rw [← EA16.out]; exact H.out.ha.cell 16
   have cb16 : wr.cell? ⟨w.heap.size + 1, 16, none⟩ = .some (.slice D16 a.dvRed.length d16) := by rw [← EB16.out]; exact H.out.hb.cell 16
   have ca10 : wr.cell? ⟨w.heap.size, 10, none⟩ = .some (.slice A10 a.ranges.length c10) := by rw [← EA10.out]; exact H.out.ha.cell 10
   have cb10 : wr.cell? ⟨w.heap.size + 1, 10, none⟩ = .some (.slice D10 a.ranges.length d10) := by rw [← EB10.out]; exact H.out.hb.cell 10
   go_wp2_with fail
   refine (HRD.out _ H.out).mono ?_
   rintro e w4 ⟨rfl, hb4⟩
   have H4 := hid (H.out.keep hb4)
   clear ca10 cb10 ca12 cb12 ca13 cb13 ca14 cb14 ca15 cb15 ca16 cb16 hb4 H
   go_upto_region 10 with (fail)
   go_cut [6, 7] (fun x0 y0 wx => ∃ p q : Nat, x0 = .pointer (some ⟨p, 0, none⟩) ∧ y0 = .pointer (some ⟨q, 0, none⟩) ∧ SX a b w.heap.size (w.heap.size + 1) p q 39 #[.bool a.pvOn, .int .i64 a.ext, .int .i64 a.int, .slice A20 a.nb.length c20, .slice A21 a.net.length c21, .slice A22 a.ag.length c22, .slice A23 a.cd.length c23, .slice A24 a.pvRed.length c24] #[.bool a.pvOn, .int .i64 a.ext, .int .i64 a.int, .slice D20 a.nb.length d20, .slice D21 a.net.length d21, .slice D22 a.ag.length d22, .slice D23 a.cd.length d23, .slice D24 a.pvRed.length d24] w wx)
   case first =>
    have lb3 : w.heap.size < w4.heap.size := zBf H4.out.ha
    have lb4 : w.heap.size + 1 < w4.heap.size := zBf H4.out.hb
    have ca17 : w4.cell? ⟨w.heap.size, 17, none⟩ = .some (.bool a.pvOn) := H4.out.ha.cell 17
    have cb17 : w4.cell? ⟨w.heap.size + 1, 17, none⟩ = .some (.bool a.pvOn) := by rw [← EF17.out]; exact H4.out.hb.cell 17
    have ca18 : w4.cell? ⟨w.heap.size, 18, none⟩ = .some (.int .i64 a.ext) := H4.out.ha.cell 18
    have cb18 : w4.cell? ⟨w.heap.size + 1, 18, none⟩ = .some (.int .i64 a.ext) := by rw [← EF18.out]; exact H4.out.hb.cell 18
    have ca19 : w4.cell? ⟨w.heap.size, 19, none⟩ = .some (.int .i64 a.int) := H4.out.ha.cell 19
    have cb19 : w4.cell? ⟨w.heap.size + 1, 19, none⟩ = .some (.int .i64 a.int) := by rw [← EF19.out]; exact H4.out.hb.cell 19
    have ca20 : w4.cell? ⟨w.heap.size, 20, none⟩ = .some (.slice A20 a.nb.length c20) := by rw [← EA20.out]; exact H4.out.ha.cell 20
    have cb20 : w4.cell? ⟨w.heap.size + 1, 20, none⟩ = .some (.slice D20 a.nb.length d20) := by rw [← EB20.out]; exact H4.out.hb.cell 20
    have ca21 : w4.cell? ⟨w.heap.size, 21, none⟩ = .some (.slice A21 a.net.length c21) := by rw [← EA21.out]; exact H4.out.ha.cell 21
    have cb21 : w4.cell? ⟨w.heap.size + 1, 21, none⟩ = .some (.slice D21 a.net.length d21) := by rw [← EB21.out]; exact H4.out.hb.cell 21
    have ca22 : w4.cell? ⟨w.heap.size, 22, none⟩ = .some (.slice A22 a.ag.length c22) := by rw [← EA22.out]; exact H4.out.ha.cell 22
    have cb22 : w4.cell? ⟨w.heap.size + 1, 22, none⟩ = .some (.slice D22 a.ag.length d22) := by rw [← EB22.out]; exact H4.out.hb.cell 22
    have ca23 : w4.cell? ⟨w.heap.size, 23, none⟩ = .some (.slice A23 a.cd.length c23) := by rw [← EA23.out]; exact H4.out.ha.cell 23
    have cb23 : w4.cell? ⟨w.heap.size + 1, 23, none⟩ = .some (.slice D23 a.cd.length d23) := by rw [← EB23.out]; exact H4.out.hb.cell 23
    have ca24 : w4.cell? ⟨w.heap.size, 24, none⟩ = .some (.slice A24 a.pvRed.length c24) := by rw [← EA24.out]; exact H4.out.ha.cell 24
    have cb24 : w4.cell? ⟨w.heap.size + 1, 24, none⟩ = .some (.slice D24 a.pvRed.length d24) := by rw [← EB24.out]; exact H4.out.hb.cell 24
    have da17 := ca17
    have db17 := cb17
    have da18 := ca18
    have db18 := cb18
    have da19 := ca19
    have db19 := cb19
    have da20 := ca20
    have db20 := cb20
    have da21 := ca21
    have db21 := cb21
    have da22 := ca22
    have db22 := cb22
    have da23 := ca23
    have db23 := cb23
    have da24 := ca24
    have db24 := cb24
    change w4.drew.cell? _ = _ at da17 db17
    change w4.drew.cell? _ = _ at da18 db18
    change w4.drew.cell? _ = _ at da19 db19
    change w4.drew.cell? _ = _ at da20 db20
    change w4.drew.cell? _ = _ at da21 db21
    change w4.drew.cell? _ = _ at da22 db22
    change w4.drew.cell? _ = _ at da23 db23
    change w4.drew.cell? _ = _ at da24 db24
    go_region_held3 (fun w' => w'.cell? ⟨w.heap.size, 17, none⟩ = .some (.bool a.pvOn) ∧ w'.cell? ⟨w.heap.size, 18, none⟩ = .some (.int .i64 a.ext) ∧ w'.cell? ⟨w.heap.size, 19, none⟩ = .some (.int .i64 a.int) ∧ w'.cell? ⟨w.heap.size, 20, none⟩ = .some (.slice A20 a.nb.length c20) ∧ w'.cell? ⟨w.heap.size, 21, none⟩ = .some (.slice A21 a.net.length c21) ∧ w'.cell? ⟨w.heap.size, 22, none⟩ = .some (.slice A22 a.ag.length c22) ∧ w'.cell? ⟨w.heap.size, 23, none⟩ = .some (.slice A23 a.cd.length c23) ∧ w'.cell? ⟨w.heap.size, 24, none⟩ = .some (.slice A24 a.pvRed.length c24) ∧ w'.cell? ⟨w.heap.size + 1, 17, none⟩ = .some (.bool a.pvOn) ∧ w'.cell? ⟨w.heap.size + 1, 18, none⟩ = .some (.int .i64 a.ext) ∧ w'.cell? ⟨w.heap.size + 1, 19, none⟩ = .some (.int .i64 a.int) ∧ w'.cell? ⟨w.heap.size + 1, 20, none⟩ = .some (.slice D20 a.nb.length d20) ∧ w'.cell? ⟨w.heap.size + 1, 21, none⟩ = .some (.slice D21 a.net.length d21) ∧ w'.cell? ⟨w.heap.size + 1, 22, none⟩ = .some (.slice D22 a.ag.length d22) ∧ w'.cell? ⟨w.heap.size + 1, 23, none⟩ = .some (.slice D23 a.cd.length d23) ∧ w'.cell? ⟨w.heap.size + 1, 24, none⟩ = .some (.slice D24 a.pvRed.length d24)) (first | (with_reducible exact ⟨da17, da18, da19, da20, da21, da22, da23, da24, db17, db18, db19, db20, db21, db22, db23, db24⟩) | go_keep) (fail)
    all_goals
     go_wp2_with fail
     go_meet
     first | exact ⟨w4.heap.size, w4.heap.size + 1, rfl, rfl, ⟨H4.out.keep (zCm w4 39 #[.bool a.pvOn, .int .i64 a.ext, .int .i64 a.int, .slice A20 a.nb.length c20, .slice A21 a.net.length c21, .slice A22 a.ag.length c22, .slice A23 a.cd.length c23, .slice A24 a.pvRed.length c24] #[.bool a.pvOn, .int .i64 a.ext, .int .i64 a.int, .slice D20 a.nb.length d20, .slice D21 a.net.length d21, .slice D22 a.ag.length d22, .slice D23 a.cd.length d23, .slice D24 a.pvRed.length d24]).2.2, (zCm w4 39 #[.bool a.pvOn, .int .i64 a.ext, .int .i64 a.int, .slice A20 a.nb.length c20, .slice A21 a.net.length c21, .slice A22 a.ag.length c22, .slice A23 a.cd.length c23, .slice A24 a.pvRed.length c24] #[.bool a.pvOn, .int .i64 a.ext, .int .i64 a.int, .slice D20 a.nb.length d20, .slice D21 a.net.length d21, .slice D22 a.ag.length d22, .slice D23 a.cd.length d23, .slice D24 a.pvRed.length d24]).1, (zCm w4 39 #[.bool a.pvOn, .int .i64 a.ext, .int .i64 a.int, .slice A20 a.nb.length c20, .slice A21 a.net.length c21, .slice A22 a.ag.length c22, .slice A23 a.cd.length c23, .slice A24 a.pvRed.length c24] #[.bool a.pvOn, .int .i64 a.ext, .int .i64 a.int, .slice D20 a.nb.length d20, .slice D21 a.net.length d21, .slice D22 a.ag.length d22, .slice D23 a.cd.length d23, .slice D24 a.pvRed.length d24]).2.1⟩⟩ | exact ⟨w4.heap.size + 1, w4.heap.size, rfl, rfl, ⟨H4.out.keep (zCm w4 39 #[.bool a.pvOn, .int .i64 a.ext, .int .i64 a.int, .slice D20 a.nb.length d20, .slice D21 a.net.length d21, .slice D22 a.ag.length d22, .slice D23 a.cd.length d23, .slice D24 a.pvRed.length d24] #[.bool a.pvOn, .int .i64 a.ext, .int .i64 a.int, .slice A20 a.nb.length c20, .slice A21 a.net.length c21, .slice A22 a.ag.length c22, .slice A23 a.cd.length c23, .slice A24 a.pvRed.length c24]).2.2, (zCm w4 39 #[.bool a.pvOn, .int .i64 a.ext, .int .i64 a.int, .slice D20 a.nb.length d20, .slice D21 a.net.length d21, .slice D22 a.ag.length d22, .slice D23 a.cd.length d23, .slice D24 a.pvRed.length d24] #[.bool a.pvOn, .int .i64 a.ext, .int .i64 a.int, .slice A20 a.nb.length c20, .slice A21 a.net.length c21, .slice A22 a.ag.length c22, .slice A23 a.cd.length c23, .slice A24 a.pvRed.length c24]).2.1, (zCm w4 39 #[.bool a.pvOn, .int .i64 a.ext, .int .i64 a.int, .slice D20 a.nb.length d20, .slice D21 a.net.length d21, .slice D22 a.ag.length d22, .slice D23 a.cd.length d23, .slice D24 a.pvRed.length d24] #[.bool a.pvOn, .int .i64 a.ext, .int .i64 a.int, .slice A20 a.nb.length c20, .slice A21 a.net.length c21, .slice A22 a.ag.length c22, .slice A23 a.cd.length c23, .slice A24 a.pvRed.length c24]).1⟩⟩
   case rest =>
    obtain ⟨p, q, rfl, rfl, hx⟩ := hcut
    have HX := hid hx
    clear hx H4
    have p17 : wc.cell? ⟨p, 0, none⟩ = .some (.bool a.pvOn) := HX.out.hp.cell 0
    have q17 : wc.cell? ⟨q, 0, none⟩ = .some (.bool a.pvOn) := HX.out.hq.cell 0
    have p18 : wc.cell? ⟨p, 1, none⟩ = .some (.int .i64 a.ext) := HX.out.hp.cell 1
    have q18 : wc.cell? ⟨q, 1, none⟩ = .some (.int .i64 a.ext) := HX.out.hq.cell 1
    have p19 : wc.cell? ⟨p, 2, none⟩ = .some (.int .i64 a.int) := HX.out.hp.cell 2
    have q19 : wc.cell? ⟨q, 2, none⟩ = .some (.int .i64 a.int) := HX.out.hq.cell 2
    have p20 : wc.cell? ⟨p, 3, none⟩ = .some (.slice A20 a.nb.length c20) := HX.out.hp.cell 3
    have q20 : wc.cell? ⟨q, 3, none⟩ = .some (.slice D20 a.nb.length d20) := HX.out.hq.cell 3
    have p21 : wc.cell? ⟨p, 4, none⟩ = .some (.slice A21 a.net.length c21) := HX.out.hp.cell 4
    have q21 : wc.cell? ⟨q, 4, none⟩ = .some (.slice D21 a.net.length d21) := HX.out.hq.cell 4
    have p22 : wc.cell? ⟨p, 5, none⟩ = .some (.slice A22 a.ag.length c22) := HX.out.hp.cell 5
    have q22 : wc.cell? ⟨q, 5, none⟩ = .some (.slice D22 a.ag.length d22) := HX.out.hq.cell 5
    have p23 : wc.cell? ⟨p, 6, none⟩ = .some (.slice A23 a.cd.length c23) := HX.out.hp.cell 6
    have q23 : wc.cell? ⟨q, 6, none⟩ = .some (.slice D23 a.cd.length d23) := HX.out.hq.cell 6
    have p24 : wc.cell? ⟨p, 7, none⟩ = .some (.slice A24 a.pvRed.length c24) := HX.out.hp.cell 7
    have q24 : wc.cell? ⟨q, 7, none⟩ = .some (.slice D24 a.pvRed.length d24) := HX.out.hq.cell 7
    go_wp2_with fail
    refine (HRP.out _ HX.out.sm).mono ?_
    rintro e w5 ⟨rfl, hb5⟩
    have H5 := hid (HX.out.keep hb5)
    clear hb5 HX p17 q17 p18 q18 p19 q19 p20 q20 p21 q21 p22 q22 p23 q23 p24 q24
    go_wp2_with fail
    go_loopg [8] a.nb.length (fun gh ix wr => ∃ i : Nat, i + gh = a.nb.length ∧ ix = .int .i64 i ∧ Hid (SX a b w.heap.size (w.heap.size + 1) p q 39 #[.bool a.pvOn, .int .i64 a.ext, .int .i64 a.int, .slice A20 a.nb.length c20, .slice A21 a.net.length c21, .slice A22 a.ag.length c22, .slice A23 a.cd.length c23, .slice A24 a.pvRed.length c24] #[.bool a.pvOn, .int .i64 a.ext, .int .i64 a.int, .slice D20 a.nb.length d20, .slice D21 a.net.length d21, .slice D22 a.ag.length d22, .slice D23 a.cd.length d23, .slice D24 a.pvRed.length d24] w wr))
    case atStart => exact ⟨0, by omega, rfl, H5⟩
    case round =>
     clear H5
     obtain ⟨i, hi, rfl, H⟩ := hrel
     have hlx : a.nb.length ≤ 9223372036854775807 := by have := HU20.out.len; simp only [maxLen] at this; exact this
     by_cases hil : i < a.nb.length
     case pos =>
      obtain ⟨g3, o3, x3, e3, -, hg3, R3⟩ := HU20.out.elem (n := 4) (by decide) (fun _ => rfl) hil
      obtain ⟨g4, o4, x4, e4, -, hg4, R4⟩ := HV20.out.elem (n := 4) (by decide) (fun _ => rfl) hil
      rw [EA20.out] at e3
      rw [EB20.out] at e4
      injection e3 with f1 f2 f3
      injection e4 with f4 f5 f6
      subst f1 f3 f4 f6
      have r3 := hid (zAg R3 H.out.sm.bel hg3)
      have r4 := hid (zAg R4 H.out.sm.bel hg4)
      have hiz : (i : Int) < (a.nb.length : Int) := by omega
      have p20 : wr.cell? ⟨p, 3, none⟩ = .some (.slice (some ⟨g3, o3, none⟩) a.nb.length c20) := H.out.hp.cell 3
      have q20 : wr.cell? ⟨q, 3, none⟩ = .some (.slice (some ⟨g4, o4, none⟩) a.nb.length d20) := H.out.hq.cell 3
      generalize a.nb[i] = z at r3 r4
      clear R3 R4 f2 f5
      have ka0 : wr.cell? ⟨g3, o3 + i * 4, none⟩ = .some (.int .u32 (z.addr : Int)) := r3.out 0 _ rfl
      have ka1 : wr.cell? ⟨g3, o3 + i * 4 + 1, none⟩ = .some (.int .i64 z.asn) := r3.out 1 _ rfl
      have ka2 : wr.cell? ⟨g3, o3 + i * 4 + 2, none⟩ = .some (.string (str z.inn)) := r3.out 2 _ rfl
      have ka3 : wr.cell? ⟨g3, o3 + i * 4 + 3, none⟩ = .some (.string (str z.out)) := r3.out 3 _ rfl
      have kb0 : wr.cell? ⟨g4, o4 + i * 4, none⟩ = .some (.int .u32 (z.addr : Int)) := r4.out 0 _ rfl
      have kb1 : wr.cell? ⟨g4, o4 + i * 4 + 1, none⟩ = .some (.int .i64 z.asn) := r4.out 1 _ rfl
      have kb2 : wr.cell? ⟨g4, o4 + i * 4 + 2, none⟩ = .some (.string (str z.inn)) := r4.out 2 _ rfl
      have kb3 : wr.cell? ⟨g4, o4 + i * 4 + 3, none⟩ = .some (.string (str z.out)) := r4.out 3 _ rfl
      go_wp2_with fail
      go_still (by kernel_rfl)
      go_wp2_with fail
      go_roundg (a.nb.length - (i + 1))
      case measure => omega
      case rel => exact ⟨i + 1, by omega, by go_num, hid (H.out.keep (zAo wr))⟩
     case neg =>
      have hiz : ¬ ((i : Int) < (a.nb.length : Int)) := by omega
      clear hlx
      have p20 : wr.cell? ⟨p, 3, none⟩ = .some (.slice A20 a.nb.length c20) := H.out.hp.cell 3
      go_wp2_with fail
      clear p20 hiz hil hi
      generalize wr = wv20 at H ⊢
      go_loopg [9] a.net.length (fun gh ix wr => ∃ i : Nat, i + gh = a.net.length ∧ ix = .int .i64 i ∧ Hid (SX a b w.heap.size (w.heap.size + 1) p q 39 #[.bool a.pvOn, .int .i64 a.ext, .int .i64 a.int, .slice A20 a.nb.length c20, .slice A21 a.net.length c21, .slice A22 a.ag.length c22, .slice A23 a.cd.length c23, .slice A24 a.pvRed.length c24] #[.bool a.pvOn, .int .i64 a.ext, .int .i64 a.int, .slice D20 a.nb.length d20, .slice D21 a.net.length d21, .slice D22 a.ag.length d22, .slice D23 a.cd.length d23, .slice D24 a.pvRed.length d24] w wr))
      case atStart => exact ⟨0, by omega, rfl, H⟩
      case round =>
       clear H
       obtain ⟨i, hi, rfl, H⟩ := hrel
       have hlx : a.net.length ≤ 9223372036854775807 := by have := HU21.out.len; simp only [maxLen] at this; exact this
       by_cases hil : i < a.net.length
       case pos =>
        obtain ⟨g3, o3, x3, e3, -, hg3, R3⟩ := HU21.out.elem (n := 2) (by decide) (fun _ => rfl) hil
        obtain ⟨g4, o4, x4, e4, -, hg4, R4⟩ := HV21.out.elem (n := 2) (by decide) (fun _ => rfl) hil
        rw [EA21.out] at e3
        rw [EB21.out] at e4
        injection e3 with f1 f2 f3
        injection e4 with f4 f5 f6
        subst f1 f3 f4 f6
        have r3 := hid (zAg R3 H.out.sm.bel hg3)
        have r4 := hid (zAg R4 H.out.sm.bel hg4)
        have hiz : (i : Int) < (a.net.length : Int) := by omega
        have p21 : wr.cell? ⟨p, 4, none⟩ = .some (.slice (some ⟨g3, o3, none⟩) a.net.length c21) := H.out.hp.cell 4
        have q21 : wr.cell? ⟨q, 4, none⟩ = .some (.slice (some ⟨g4, o4, none⟩) a.net.length d21) := H.out.hq.cell 4
        generalize a.net[i] = z at r3 r4
        clear R3 R4 f2 f5
        have ka0 : wr.cell? ⟨g3, o3 + i * 2, none⟩ = .some (.int .u32 (z.pa : Int)) := r3.out 0 _ rfl
        have ka1 : wr.cell? ⟨g3, o3 + i * 2 + 1, none⟩ = .some (.int .i64 z.pl) := r3.out 1 _ rfl
        have kb0 : wr.cell? ⟨g4, o4 + i * 2, none⟩ = .some (.int .u32 (z.pa : Int)) := r4.out 0 _ rfl
        have kb1 : wr.cell? ⟨g4, o4 + i * 2 + 1, none⟩ = .some (.int .i64 z.pl) := r4.out 1 _ rfl
        go_wp2_with fail
        go_still (by kernel_rfl)
        go_wp2_with fail
        go_roundg (a.net.length - (i + 1))
        case measure => omega
        case rel => exact ⟨i + 1, by omega, by go_num, hid (H.out.keep (zAo wr))⟩
       case neg =>
        have hiz : ¬ ((i : Int) < (a.net.length : Int)) := by omega
        clear hlx
        have p21 : wr.cell? ⟨p, 4, none⟩ = .some (.slice A21 a.net.length c21) := H.out.hp.cell 4
        go_wp2_with fail
        clear p21 hiz hil hi
        generalize wr = wv21 at H ⊢
        go_loopg [10] a.ag.length (fun gh ix wr => ∃ i : Nat, i + gh = a.ag.length ∧ ix = .int .i64 i ∧ Hid (SX a b w.heap.size (w.heap.size + 1) p q 39 #[.bool a.pvOn, .int .i64 a.ext, .int .i64 a.int, .slice A20 a.nb.length c20, .slice A21 a.net.length c21, .slice A22 a.ag.length c22, .slice A23 a.cd.length c23, .slice A24 a.pvRed.length c24] #[.bool a.pvOn, .int .i64 a.ext, .int .i64 a.int, .slice D20 a.nb.length d20, .slice D21 a.net.length d21, .slice D22 a.ag.length d22, .slice D23 a.cd.length d23, .slice D24 a.pvRed.length d24] w wr))
        case atStart => exact ⟨0, by omega, rfl, H⟩
        case round =>
         clear H
         obtain ⟨i, hi, rfl, H⟩ := hrel
         have hlx : a.ag.length ≤ 9223372036854775807 := by have := HU22.out.len; simp only [maxLen] at this; exact this
         by_cases hil : i < a.ag.length
         case pos =>
          obtain ⟨g3, o3, x3, e3, -, hg3, R3⟩ := HU22.out.elem (n := 3) (by decide) (fun _ => rfl) hil
          obtain ⟨g4, o4, x4, e4, -, hg4, R4⟩ := HV22.out.elem (n := 3) (by decide) (fun _ => rfl) hil
          rw [EA22.out] at e3
          rw [EB22.out] at e4
          injection e3 with f1 f2 f3
          injection e4 with f4 f5 f6
          subst f1 f3 f4 f6
          have r3 := hid (zAg R3 H.out.sm.bel hg3)
          have r4 := hid (zAg R4 H.out.sm.bel hg4)
          have hiz : (i : Int) < (a.ag.length : Int) := by omega
          have p22 : wr.cell? ⟨p, 5, none⟩ = .some (.slice (some ⟨g3, o3, none⟩) a.ag.length c22) := H.out.hp.cell 5
          have q22 : wr.cell? ⟨q, 5, none⟩ = .some (.slice (some ⟨g4, o4, none⟩) a.ag.length d22) := H.out.hq.cell 5
          generalize a.ag[i] = z at r3 r4
          clear R3 R4 f2 f5
          have ka0 : wr.cell? ⟨g3, o3 + i * 3, none⟩ = .some (.int .u32 (z.pa : Int)) := r3.out 0 _ rfl
          have ka1 : wr.cell? ⟨g3, o3 + i * 3 + 1, none⟩ = .some (.int .i64 z.pl) := r3.out 1 _ rfl
          have ka2 : wr.cell? ⟨g3, o3 + i * 3 + 2, none⟩ = .some (.bool z.only) := r3.out 2 _ rfl
          have kb0 : wr.cell? ⟨g4, o4 + i * 3, none⟩ = .some (.int .u32 (z.pa : Int)) := r4.out 0 _ rfl
          have kb1 : wr.cell? ⟨g4, o4 + i * 3 + 1, none⟩ = .some (.int .i64 z.pl) := r4.out 1 _ rfl
          have kb2 : wr.cell? ⟨g4, o4 + i * 3 + 2, none⟩ = .some (.bool z.only) := r4.out 2 _ rfl
          go_wp2_with fail
          go_still (by kernel_rfl)
          go_wp2_with fail
          go_roundg (a.ag.length - (i + 1))
          case measure => omega
          case rel => exact ⟨i + 1, by omega, by go_num, hid (H.out.keep (zAo wr))⟩
         case neg =>
          have hiz : ¬ ((i : Int) < (a.ag.length : Int)) := by omega
          clear hlx
          have p22 : wr.cell? ⟨p, 5, none⟩ = .some (.slice A22 a.ag.length c22) := H.out.hp.cell 5
          go_wp2_with fail
          clear p22 hiz hil hi
          generalize wr = wv22 at H ⊢
          go_loopg [11] a.cd.length (fun gh ix wr => ∃ i : Nat, i + gh = a.cd.length ∧ ix = .int .i64 i ∧ Hid (SX a b w.heap.size (w.heap.size + 1) p q 39 #[.bool a.pvOn, .int .i64 a.ext, .int .i64 a.int, .slice A20 a.nb.length c20, .slice A21 a.net.length c21, .slice A22 a.ag.length c22, .slice A23 a.cd.length c23, .slice A24 a.pvRed.length c24] #[.bool a.pvOn, .int .i64 a.ext, .int .i64 a.int, .slice D20 a.nb.length d20, .slice D21 a.net.length d21, .slice D22 a.ag.length d22, .slice D23 a.cd.length d23, .slice D24 a.pvRed.length d24] w wr))
          case atStart => exact ⟨0, by omega, rfl, H⟩
          case round =>
           clear H
           obtain ⟨i, hi, rfl, H⟩ := hrel
           have hlx : a.cd.length ≤ 9223372036854775807 := by have := HU23.out.len; simp only [maxLen] at this; exact this
           by_cases hil : i < a.cd.length
           case pos =>
            obtain ⟨g3, o3, x3, e3, -, hg3, R3⟩ := HU23.out.elem (n := 5) (by decide) (fun _ => rfl) hil
            obtain ⟨g4, o4, x4, e4, -, hg4, R4⟩ := HV23.out.elem (n := 5) (by decide) (fun _ => rfl) hil
            rw [EA23.out] at e3
            rw [EB23.out] at e4
            injection e3 with f1 f2 f3
            injection e4 with f4 f5 f6
            subst f1 f3 f4 f6
            have r3 := hid (zAg R3 H.out.sm.bel hg3)
            have r4 := hid (zAg R4 H.out.sm.bel hg4)
            have hiz : (i : Int) < (a.cd.length : Int) := by omega
            have p23 : wr.cell? ⟨p, 6, none⟩ = .some (.slice (some ⟨g3, o3, none⟩) a.cd.length c23) := H.out.hp.cell 6
            have q23 : wr.cell? ⟨q, 6, none⟩ = .some (.slice (some ⟨g4, o4, none⟩) a.cd.length d23) := H.out.hq.cell 6
            generalize a.cd[i] = z at r3 r4
            clear R3 R4 f2 f5
            have ka0 : wr.cell? ⟨g3, o3 + i * 5, none⟩ = .some (.int .u32 (z.pa : Int)) := r3.out 0 _ rfl
            have ka1 : wr.cell? ⟨g3, o3 + i * 5 + 1, none⟩ = .some (.int .i64 z.pl) := r3.out 1 _ rfl
            have ka2 : wr.cell? ⟨g3, o3 + i * 5 + 2, none⟩ = .some (.int .u32 (z.ia : Int)) := r3.out 2 _ rfl
            have ka3 : wr.cell? ⟨g3, o3 + i * 5 + 3, none⟩ = .some (.int .i64 z.il) := r3.out 3 _ rfl
            have ka4 : wr.cell? ⟨g3, o3 + i * 5 + 4, none⟩ = .some (.bool z.absent) := r3.out 4 _ rfl
            have kb0 : wr.cell? ⟨g4, o4 + i * 5, none⟩ = .some (.int .u32 (z.pa : Int)) := r4.out 0 _ rfl
            have kb1 : wr.cell? ⟨g4, o4 + i * 5 + 1, none⟩ = .some (.int .i64 z.pl) := r4.out 1 _ rfl
            have kb2 : wr.cell? ⟨g4, o4 + i * 5 + 2, none⟩ = .some (.int .u32 (z.ia : Int)) := r4.out 2 _ rfl
            have kb3 : wr.cell? ⟨g4, o4 + i * 5 + 3, none⟩ = .some (.int .i64 z.il) := r4.out 3 _ rfl
            have kb4 : wr.cell? ⟨g4, o4 + i * 5 + 4, none⟩ = .some (.bool z.absent) := r4.out 4 _ rfl
            go_wp2_with fail
            go_still (by kernel_rfl)
            go_wp2_with fail
            go_roundg (a.cd.length - (i + 1))
            case measure => omega
            case rel => exact ⟨i + 1, by omega, by go_num, hid (H.out.keep (zAo wr))⟩
           case neg =>
            have hiz : ¬ ((i : Int) < (a.cd.length : Int)) := by omega
            clear hlx
            have p23 : wr.cell? ⟨p, 6, none⟩ = .some (.slice A23 a.cd.length c23) := H.out.hp.cell 6
            go_wp2_with fail
            clear p23 hiz hil hi
            go_ret
            exact ⟨rfl, H.out.sm.bel⟩
theorem same_any (a b : Rt) (w : World) (B : Nat) (hat : a.at w B) (hbt : b.at w B) (hB : B ≤ w.heap.size) (hp : a.plain = b.plain) :
  Calls Tryz.prog 9 #[.agg a.C, .agg b.C] w fun e w' => e = .returned (.bool true) ∧ Below w.heap.size w w' := by
 have hal := hat.lift hB
 have hbl := hbt.lift hB
 have HP := hid hp
 have H0 := hid (SM.start a b w)
 have EF0 : Hid (b.name = a.name) := hid (congrArg Rt.name hp).symm
 have EF1 : Hid (b.asn = a.asn) := hid (congrArg Rt.asn hp).symm
 have EF2 : Hid (b.ifs = a.ifs) := hid (congrArg Rt.ifs hp).symm
 have HU2 := hid hal.hifs
 have HV2 : Hid (SlV w w.heap.size 12 If.C b.ifsV a.ifs) := hid (by rw [← EF2.out]; exact hbl.hifs)
 obtain ⟨A2, c2, ea2, -⟩ := HU2.out
 obtain ⟨D2, d2, eb2, -⟩ := HV2.out
 have EA2 := hid ea2
 have EB2 := hid eb2
 clear ea2 eb2
 have EF6 : Hid (b.nat = a.nat) := hid (congrArg Rt.nat hp).symm
 have HU6 := hid hal.hnat
 have HV6 : Hid (SlV w w.heap.size 9 Tr.C b.natV a.nat) := hid (by rw [← EF6.out]; exact hbl.hnat)
 obtain ⟨A6, c6, ea6, -⟩ := HU6.out
 obtain ⟨D6, d6, eb6, -⟩ := HV6.out
 have EA6 := hid ea6
 have EB6 := hid eb6
 clear ea6 eb6
 have EF7 : Hid (b.stat = a.stat) := hid (congrArg Rt.stat hp).symm
 have HU7 := hid hal.hstat
 have HV7 : Hid (SlV w w.heap.size 7 Sr.C b.statV a.stat) := hid (by rw [← EF7.out]; exact hbl.hstat)
 obtain ⟨A7, c7, ea7, -⟩ := HU7.out
 obtain ⟨D7, d7, eb7, -⟩ := HV7.out
 have EA7 := hid ea7
 have EB7 := hid eb7
 clear ea7 eb7
 have ca0 : ((w.alloc (.cells a.C 41)).alloc (.cells b.C 41)).cell? ⟨w.heap.size, 0, none⟩ = .some (.string (str a.name)) := H0.out.ha.cell 0
 have cb0 : ((w.alloc (.cells a.C 41)).alloc (.cells b.C 41)).cell? ⟨w.heap.size + 1, 0, none⟩ = .some (.string (str a.name)) := by rw [← EF0.out]; exact H0.out.hb.cell 0
 have ca1 : ((w.alloc (.cells a.C 41)).alloc (.cells b.C 41)).cell? ⟨w.heap.size, 1, none⟩ = .some (.int .i64 a.asn) := H0.out.ha.cell 1
 have cb1 : ((w.alloc (.cells a.C 41)).alloc (.cells b.C 41)).cell? ⟨w.heap.size + 1, 1, none⟩ = .some (.int .i64 a.asn) := by rw [← EF1.out]; exact H0.out.hb.cell 1
 have ca2 : ((w.alloc (.cells a.C 41)).alloc (.cells b.C 41)).cell? ⟨w.heap.size, 2, none⟩ = .some (.slice A2 a.ifs.length c2) := by rw [← EA2.out]; exact H0.out.ha.cell 2
 have cb2 : ((w.alloc (.cells a.C 41)).alloc (.cells b.C 41)).cell? ⟨w.heap.size + 1, 2, none⟩ = .some (.slice D2 a.ifs.length d2) := by rw [← EB2.out]; exact H0.out.hb.cell 2
 have ca6 : ((w.alloc (.cells a.C 41)).alloc (.cells b.C 41)).cell? ⟨w.heap.size, 6, none⟩ = .some (.slice A6 a.nat.length c6) := by rw [← EA6.out]; exact H0.out.ha.cell 6
 have cb6 : ((w.alloc (.cells a.C 41)).alloc (.cells b.C 41)).cell? ⟨w.heap.size + 1, 6, none⟩ = .some (.slice D6 a.nat.length d6) := by rw [← EB6.out]; exact H0.out.hb.cell 6
 have ca7 : ((w.alloc (.cells a.C 41)).alloc (.cells b.C 41)).cell? ⟨w.heap.size, 7, none⟩ = .some (.slice A7 a.stat.length c7) := by rw [← EA7.out]; exact H0.out.ha.cell 7
 have cb7 : ((w.alloc (.cells a.C 41)).alloc (.cells b.C 41)).cell? ⟨w.heap.size + 1, 7, none⟩ = .some (.slice D7 a.stat.length d7) := by rw [← EB7.out]; exact H0.out.hb.cell 7
 have HAL := hid hal
 have HBL := hid hbl
 clear hal hbl hat hbt hp
 go_enter Tryz.func9, Tryz.ntmps9
 go_upto_region 3 with (fail)
 clear ca0 cb0 ca1 cb1 ca2 cb2 ca6 cb6 ca7 cb7
 generalize ((w.alloc (.cells a.C 41)).alloc (.cells b.C 41)) = w2 at H0 ⊢
 go_wp2_with fail
 go_loopg [5] a.ifs.length (fun gh ix wr => ∃ i : Nat, i + gh = a.ifs.length ∧ ix = .int .i64 i ∧ Hid (SM a b w.heap.size (w.heap.size + 1) w wr))
 case atStart => exact ⟨0, by omega, rfl, H0⟩
 case round =>
  clear H0
  obtain ⟨i, hi, rfl, H⟩ := hrel
  have hlx : a.ifs.length ≤ 9223372036854775807 := by have := HU2.out.len; simp only [maxLen] at this; exact this
  by_cases hil : i < a.ifs.length
  case pos =>
   obtain ⟨g3, o3, x3, e3, -, hg3, R3⟩ := HU2.out.elem (n := 12) (by decide) (fun _ => rfl) hil
   obtain ⟨g4, o4, x4, e4, -, hg4, R4⟩ := HV2.out.elem (n := 12) (by decide) (fun _ => rfl) hil
   rw [EA2.out] at e3
   rw [EB2.out] at e4
   injection e3 with f1 f2 f3
   injection e4 with f4 f5 f6
   subst f1 f3 f4 f6
   have r3 := hid (zAg R3 H.out.bel hg3)
   have r4 := hid (zAg R4 H.out.bel hg4)
   have hiz : (i : Int) < (a.ifs.length : Int) := by omega
   have ca2 : wr.cell? ⟨w.heap.size, 2, none⟩ = .some (.slice (some ⟨g3, o3, none⟩) a.ifs.length c2) := by rw [← EA2.out]; exact H.out.ha.cell 2
   have cb2 : wr.cell? ⟨w.heap.size + 1, 2, none⟩ = .some (.slice (some ⟨g4, o4, none⟩) a.ifs.length d2) := by rw [← EB2.out]; exact H.out.hb.cell 2
   generalize a.ifs[i] = z at r3 r4
   clear R3 R4 f2 f5
   have ka0 : wr.cell? ⟨g3, o3 + i * 12, none⟩ = .some (.string (str z.name)) := r3.out 0 _ rfl
   have ka1 : wr.cell? ⟨g3, o3 + i * 12 + 1, none⟩ = .some (.int .u32 (z.addr : Int)) := r3.out 1 _ rfl
   have ka2 : wr.cell? ⟨g3, o3 + i * 12 + 2, none⟩ = .some (.int .i64 z.len) := r3.out 2 _ rfl
   have ka3 : wr.cell? ⟨g3, o3 + i * 12 + 3, none⟩ = .some (.int .i64 z.vlan) := r3.out 3 _ rfl
   have ka4 : wr.cell? ⟨g3, o3 + i * 12 + 4, none⟩ = .some (.bool z.down) := r3.out 4 _ rfl
   have ka5 : wr.cell? ⟨g3, o3 + i * 12 + 5, none⟩ = .some (.bool z.ls) := r3.out 5 _ rfl
   have ka6 : wr.cell? ⟨g3, o3 + i * 12 + 6, none⟩ = .some (.int .i64 z.area) := r3.out 6 _ rfl
   have ka7 : wr.cell? ⟨g3, o3 + i * 12 + 7, none⟩ = .some (.int .i64 z.cost) := r3.out 7 _ rfl
   have ka8 : wr.cell? ⟨g3, o3 + i * 12 + 8, none⟩ = .some (.bool z.dv) := r3.out 8 _ rfl
   have ka9 : wr.cell? ⟨g3, o3 + i * 12 + 9, none⟩ = .some (.string (str z.inn)) := r3.out 9 _ rfl
   have ka10 : wr.cell? ⟨g3, o3 + i * 12 + 10, none⟩ = .some (.string (str z.out)) := r3.out 10 _ rfl
   have ka11 : wr.cell? ⟨g3, o3 + i * 12 + 11, none⟩ = .some (.int .i64 z.side) := r3.out 11 _ rfl
   have kb0 : wr.cell? ⟨g4, o4 + i * 12, none⟩ = .some (.string (str z.name)) := r4.out 0 _ rfl
   have kb1 : wr.cell? ⟨g4, o4 + i * 12 + 1, none⟩ = .some (.int .u32 (z.addr : Int)) := r4.out 1 _ rfl
   have kb2 : wr.cell? ⟨g4, o4 + i * 12 + 2, none⟩ = .some (.int .i64 z.len) := r4.out 2 _ rfl
   have kb3 : wr.cell? ⟨g4, o4 + i * 12 + 3, none⟩ = .some (.int .i64 z.vlan) := r4.out 3 _ rfl
   have kb4 : wr.cell? ⟨g4, o4 + i * 12 + 4, none⟩ = .some (.bool z.down) := r4.out 4 _ rfl
   have kb5 : wr.cell? ⟨g4, o4 + i * 12 + 5, none⟩ = .some (.bool z.ls) := r4.out 5 _ rfl
   have kb6 : wr.cell? ⟨g4, o4 + i * 12 + 6, none⟩ = .some (.int .i64 z.area) := r4.out 6 _ rfl
   have kb7 : wr.cell? ⟨g4, o4 + i * 12 + 7, none⟩ = .some (.int .i64 z.cost) := r4.out 7 _ rfl
   have kb8 : wr.cell? ⟨g4, o4 + i * 12 + 8, none⟩ = .some (.bool z.dv) := r4.out 8 _ rfl
   have kb9 : wr.cell? ⟨g4, o4 + i * 12 + 9, none⟩ = .some (.string (str z.inn)) := r4.out 9 _ rfl
   have kb10 : wr.cell? ⟨g4, o4 + i * 12 + 10, none⟩ = .some (.string (str z.out)) := r4.out 10 _ rfl
   have kb11 : wr.cell? ⟨g4, o4 + i * 12 + 11, none⟩ = .some (.int .i64 z.side) := r4.out 11 _ rfl
   go_wp2_with fail
   go_still (by kernel_rfl)
   go_wp2_with fail
   go_roundg (a.ifs.length - (i + 1))
   case measure => omega
   case rel => exact ⟨i + 1, by omega, by go_num, hid (H.out.keep (zAo wr))⟩
  case neg =>
   have hiz : ¬ ((i : Int) < (a.ifs.length : Int)) := by omega
   clear hlx
   have ca2 : wr.cell? ⟨w.heap.size, 2, none⟩ = .some (.slice A2 a.ifs.length c2) := by rw [← EA2.out]; exact H.out.ha.cell 2
   go_wp2_with fail
   clear ca2 hiz hil hi
   generalize wr = wv2 at H ⊢
   go_loopg [6] a.nat.length (fun gh ix wr => ∃ i : Nat, i + gh = a.nat.length ∧ ix = .int .i64 i ∧ Hid (SM a b w.heap.size (w.heap.size + 1) w wr))
   case atStart => exact ⟨0, by omega, rfl, H⟩
   case round =>
    clear H
    obtain ⟨i, hi, rfl, H⟩ := hrel
    have hlx : a.nat.length ≤ 9223372036854775807 := by have := HU6.out.len; simp only [maxLen] at this; exact this
    by_cases hil : i < a.nat.length
    case pos =>
     obtain ⟨g3, o3, x3, e3, -, hg3, R3⟩ := HU6.out.elem (n := 9) (by decide) (fun _ => rfl) hil
     obtain ⟨g4, o4, x4, e4, -, hg4, R4⟩ := HV6.out.elem (n := 9) (by decide) (fun _ => rfl) hil
     rw [EA6.out] at e3
     rw [EB6.out] at e4
     injection e3 with f1 f2 f3
     injection e4 with f4 f5 f6
     subst f1 f3 f4 f6
     have r3 := hid (zAg R3 H.out.bel hg3)
     have r4 := hid (zAg R4 H.out.bel hg4)
     have hiz : (i : Int) < (a.nat.length : Int) := by omega
     have ca6 : wr.cell? ⟨w.heap.size, 6, none⟩ = .some (.slice (some ⟨g3, o3, none⟩) a.nat.length c6) := by rw [← EA6.out]; exact H.out.ha.cell 6
     have cb6 : wr.cell? ⟨w.heap.size + 1, 6, none⟩ = .some (.slice (some ⟨g4, o4, none⟩) a.nat.length d6) := by rw [← EB6.out]; exact H.out.hb.cell 6
     generalize a.nat[i] = z at r3 r4
     clear R3 R4 f2 f5
     have ka0 : wr.cell? ⟨g3, o3 + i * 9, none⟩ = .some (.int .i64 z.kind) := r3.out 0 _ rfl
     have ka1 : wr.cell? ⟨g3, o3 + i * 9 + 1, none⟩ = .some (.int .u32 (z.ins : Int)) := r3.out 1 _ rfl
     have ka2 : wr.cell? ⟨g3, o3 + i * 9 + 2, none⟩ = .some (.int .u32 (z.outs : Int)) := r3.out 2 _ rfl
     have ka3 : wr.cell? ⟨g3, o3 + i * 9 + 3, none⟩ = .some (.int .i64 z.proto) := r3.out 3 _ rfl
     have ka4 : wr.cell? ⟨g3, o3 + i * 9 + 4, none⟩ = .some (.int .i64 z.iport) := r3.out 4 _ rfl
     have ka5 : wr.cell? ⟨g3, o3 + i * 9 + 5, none⟩ = .some (.int .i64 z.oport) := r3.out 5 _ rfl
     have ka6 : wr.cell? ⟨g3, o3 + i * 9 + 6, none⟩ = .some (.string (str z.list)) := r3.out 6 _ rfl
     have ka7 : wr.cell? ⟨g3, o3 + i * 9 + 7, none⟩ = .some (.int .u32 (z.lo : Int)) := r3.out 7 _ rfl
     have ka8 : wr.cell? ⟨g3, o3 + i * 9 + 8, none⟩ = .some (.int .u32 (z.hi : Int)) := r3.out 8 _ rfl
     have kb0 : wr.cell? ⟨g4, o4 + i * 9, none⟩ = .some (.int .i64 z.kind) := r4.out 0 _ rfl
     have kb1 : wr.cell? ⟨g4, o4 + i * 9 + 1, none⟩ = .some (.int .u32 (z.ins : Int)) := r4.out 1 _ rfl
     have kb2 : wr.cell? ⟨g4, o4 + i * 9 + 2, none⟩ = .some (.int .u32 (z.outs : Int)) := r4.out 2 _ rfl
     have kb3 : wr.cell? ⟨g4, o4 + i * 9 + 3, none⟩ = .some (.int .i64 z.proto) := r4.out 3 _ rfl
     have kb4 : wr.cell? ⟨g4, o4 + i * 9 + 4, none⟩ = .some (.int .i64 z.iport) := r4.out 4 _ rfl
     have kb5 : wr.cell? ⟨g4, o4 + i * 9 + 5, none⟩ = .some (.int .i64 z.oport) := r4.out 5 _ rfl
     have kb6 : wr.cell? ⟨g4, o4 + i * 9 + 6, none⟩ = .some (.string (str z.list)) := r4.out 6 _ rfl
     have kb7 : wr.cell? ⟨g4, o4 + i * 9 + 7, none⟩ = .some (.int .u32 (z.lo : Int)) := r4.out 7 _ rfl
     have kb8 : wr.cell? ⟨g4, o4 + i * 9 + 8, none⟩ = .some (.int .u32 (z.hi : Int)) := r4.out 8 _ rfl
     go_wp2_with fail
     go_still (by kernel_rfl)
     go_wp2_with fail
     go_roundg (a.nat.length - (i + 1))
     case measure => omega
     case rel => exact ⟨i + 1, by omega, by go_num, hid (H.out.keep (zAo wr))⟩
    case neg =>
     have hiz : ¬ ((i : Int) < (a.nat.length : Int)) := by omega
     clear hlx
     have ca6 : wr.cell? ⟨w.heap.size, 6, none⟩ = .some (.slice A6 a.nat.length c6) := by rw [← EA6.out]; exact H.out.ha.cell 6
     go_wp2_with fail
     clear ca6 hiz hil hi
     generalize wr = wv6 at H ⊢
     go_loopg [7] a.stat.length (fun gh ix wr => ∃ i : Nat, i + gh = a.stat.length ∧ ix = .int .i64 i ∧ Hid (SM a b w.heap.size (w.heap.size + 1) w wr))
     case atStart => exact ⟨0, by omega, rfl, H⟩
     case round =>
      clear H
      obtain ⟨i, hi, rfl, H⟩ := hrel
      have hlx : a.stat.length ≤ 9223372036854775807 := by have := HU7.out.len; simp only [maxLen] at this; exact this
      by_cases hil : i < a.stat.length
      case pos =>
       obtain ⟨g3, o3, x3, e3, -, hg3, R3⟩ := HU7.out.elem (n := 7) (by decide) (fun _ => rfl) hil
       obtain ⟨g4, o4, x4, e4, -, hg4, R4⟩ := HV7.out.elem (n := 7) (by decide) (fun _ => rfl) hil
       rw [EA7.out] at e3
       rw [EB7.out] at e4
       injection e3 with f1 f2 f3
       injection e4 with f4 f5 f6
       subst f1 f3 f4 f6
       have r3 := hid (zAg R3 H.out.bel hg3)
       have r4 := hid (zAg R4 H.out.bel hg4)
       have hiz : (i : Int) < (a.stat.length : Int) := by omega
       have ca7 : wr.cell? ⟨w.heap.size, 7, none⟩ = .some (.slice (some ⟨g3, o3, none⟩) a.stat.length c7) := by rw [← EA7.out]; exact H.out.ha.cell 7
       have cb7 : wr.cell? ⟨w.heap.size + 1, 7, none⟩ = .some (.slice (some ⟨g4, o4, none⟩) a.stat.length d7) := by rw [← EB7.out]; exact H.out.hb.cell 7
       generalize a.stat[i] = z at r3 r4
       clear R3 R4 f2 f5
       have ka0 : wr.cell? ⟨g3, o3 + i * 7, none⟩ = .some (.int .u32 (z.pa : Int)) := r3.out 0 _ rfl
       have ka1 : wr.cell? ⟨g3, o3 + i * 7 + 1, none⟩ = .some (.int .i64 z.pl) := r3.out 1 _ rfl
       have ka2 : wr.cell? ⟨g3, o3 + i * 7 + 2, none⟩ = .some (.int .u32 (z.next : Int)) := r3.out 2 _ rfl
       have ka3 : wr.cell? ⟨g3, o3 + i * 7 + 3, none⟩ = .some (.string (str z.iface)) := r3.out 3 _ rfl
       have ka4 : wr.cell? ⟨g3, o3 + i * 7 + 4, none⟩ = .some (.bool z.discard) := r3.out 4 _ rfl
       have ka5 : wr.cell? ⟨g3, o3 + i * 7 + 5, none⟩ = .some (.int .i64 z.admin) := r3.out 5 _ rfl
       have ka6 : wr.cell? ⟨g3, o3 + i * 7 + 6, none⟩ = .some (.int .i64 z.tag) := r3.out 6 _ rfl
       have kb0 : wr.cell? ⟨g4, o4 + i * 7, none⟩ = .some (.int .u32 (z.pa : Int)) := r4.out 0 _ rfl
       have kb1 : wr.cell? ⟨g4, o4 + i * 7 + 1, none⟩ = .some (.int .i64 z.pl) := r4.out 1 _ rfl
       have kb2 : wr.cell? ⟨g4, o4 + i * 7 + 2, none⟩ = .some (.int .u32 (z.next : Int)) := r4.out 2 _ rfl
       have kb3 : wr.cell? ⟨g4, o4 + i * 7 + 3, none⟩ = .some (.string (str z.iface)) := r4.out 3 _ rfl
       have kb4 : wr.cell? ⟨g4, o4 + i * 7 + 4, none⟩ = .some (.bool z.discard) := r4.out 4 _ rfl
       have kb5 : wr.cell? ⟨g4, o4 + i * 7 + 5, none⟩ = .some (.int .i64 z.admin) := r4.out 5 _ rfl
       have kb6 : wr.cell? ⟨g4, o4 + i * 7 + 6, none⟩ = .some (.int .i64 z.tag) := r4.out 6 _ rfl
       go_wp2_with fail
       go_still (by kernel_rfl)
       go_wp2_with fail
       go_roundg (a.stat.length - (i + 1))
       case measure => omega
       case rel => exact ⟨i + 1, by omega, by go_num, hid (H.out.keep (zAo wr))⟩
      case neg =>
       have hiz : ¬ ((i : Int) < (a.stat.length : Int)) := by omega
       clear hlx
       have ca7 : wr.cell? ⟨w.heap.size, 7, none⟩ = .some (.slice A7 a.stat.length c7) := by rw [← EA7.out]; exact H.out.ha.cell 7
       go_upto_region 18 with (fail)
       clear ca7 hiz hil hi
       go_wp2_with (first | (refine zAa rfl 41 _ rfl rfl H.out.ha.range Tryz.rowRt Tryz.sizeRt ?_) | (refine zAa rfl 41 _ rfl rfl H.out.hb.range Tryz.rowRt Tryz.sizeRt ?_))
       refine (sameLists_any a b wr w.heap.size (HAL.out.below H.out.bel) (HBL.out.below H.out.bel) H.out.bel.size HP.out).mono ?_
       rintro e w5 ⟨rfl, hb5⟩
       have H5 := hid (H.out.keep hb5)
       clear hb5 H
       go_wp2_with (first | (refine zAx (by rfl) (zAa rfl 41 _ rfl rfl H5.out.ha.range Tryz.rowRt Tryz.sizeRt ?_)) | (refine zAx (by rfl) (zAa rfl 41 _ rfl rfl H5.out.hb.range Tryz.rowRt Tryz.sizeRt ?_)))
       refine (zJt a b w5 w.heap.size (HAL.out.below H5.out.bel) (HBL.out.below H5.out.bel) H5.out.bel.size HP.out).mono ?_
       rintro e w6 ⟨rfl, hb6⟩
       have H6 := hid (H5.out.keep hb6)
       clear hb6 H5
       go_wp2_with fail
       go_ret
       exact ⟨rfl, H6.out.bel⟩
theorem zHz (b : List UInt8) : ∀ (a cur : List UInt8), zAp cur (a ++ 10 :: b) = zAp cur (a ++ [10]) ++ zAp [] b
 | [], cur => by simp [zAp, flush]
 | c :: r, cur => by
  show (if (c.toNat : Int) = 10 then cur :: zAp [] (r ++ 10 :: b) else zAp (cur ++ [c]) (r ++ 10 :: b)) = (if (c.toNat : Int) = 10 then cur :: zAp [] (r ++ [10]) else zAp (cur ++ [c]) (r ++ [10])) ++ zAp [] b
  rw [zHz b r, zHz b r]
  split <;> rfl
theorem zJy : ∀ (a cur : List UInt8), zAp cur (a ++ [10]) = zAp cur a ∨ zAp cur (a ++ [10]) = zAp cur a ++ [[]]
 | [], cur => by
  have e : zAp cur ([] ++ [10]) = [cur] := by simp [zAp, flush]
  rw [e]
  show [cur] = flush cur ∨ [cur] = flush cur ++ [[]]
  unfold flush
  by_cases h : cur = []
  ·right; subst h; rfl
  ·left; rw [if_neg h]
 | c :: r, cur => by
  show (if (c.toNat : Int) = 10 then cur :: zAp [] (r ++ [10]) else zAp (cur ++ [c]) (r ++ [10])) = (if (c.toNat : Int) = 10 then cur :: zAp [] r else zAp (cur ++ [c]) r) ∨ (if (c.toNat : Int) = 10 then cur :: zAp [] (r ++ [10]) else zAp (cur ++ [c]) (r ++ [10])) = (if (c.toNat : Int) = 10 then cur :: zAp [] r else zAp (cur ++ [c]) r) ++ [[]]
  split
  ·rcases zJy r [] with h | h
   ·left; rw [h]
   ·right; rw [h]; rfl
  ·exact zJy r (cur ++ [c])
theorem zIe (r : List UInt8) : ∀ (x cur : List UInt8), (∀ b ∈ x, (b.toNat : Int) ≠ 10) → zAp cur (x ++ r) = zAp (cur ++ x) r
 | [], cur, _ => by simp
 | c :: x, cur, h => by
  show (if (c.toNat : Int) = 10 then cur :: zAp [] (x ++ r) else zAp (cur ++ [c]) (x ++ r)) = _
  rw [if_neg (h c (by simp)), zIe r x (cur ++ [c]) (fun b hb => h b (List.mem_cons_of_mem _ hb)), List.append_assoc]
  rfl
theorem zFi : ∀ (x y : List (List (List UInt8))) (k : Nat) (a a' : Al), zBt x k a = (a', none) → zBt (x ++ y) k a = zBt y (k + x.length) a'
 | [], y, k, a, a', h => by injection h with h _; subst h; rfl
 | [] :: x, y, k, a, a', h => by
  have := zFi x y (k + 1) a a' h
  show zBt (x ++ y) (k + 1) a = _
  rw [this, List.length_cons]
  congr 1
  omega
 | (f :: fs) :: x, y, k, a, a', h => by
  have h' : (if (lineS (f :: fs) a).2 then zBt x (k + 1) (lineS (f :: fs) a).1 else (a, some (k + 1))) = (a', none) := h
  show (if (lineS (f :: fs) a).2 then zBt (x ++ y) (k + 1) (lineS (f :: fs) a).1 else (a, some (k + 1))) = _
  cases hc : (lineS (f :: fs) a).2 with
  | false => rw [hc] at h'; cases h'
  | true =>
   rw [hc] at h'
   rw [if_pos rfl, zFi x y (k + 1) _ a' h', List.length_cons]
   congr 1
   omega
theorem fields_run (cm : Int) (r : List UInt8) : ∀ (x cur : List UInt8), (∀ b ∈ x, zEd b.toNat = false) → zAs cm (some cur) (x ++ r) = zAs cm (some (cur ++ x)) r
 | [], cur, _ => by simp
 | c :: x, cur, h => by
  show (if zEd c.toNat then cur :: zAs cm none (x ++ r) else zAs cm (some (cur ++ [c])) (x ++ r)) = _
  rw [if_neg (by rw [h c (by simp)]; decide), fields_run cm r x (cur ++ [c]) (fun b hb => h b (List.mem_cons_of_mem _ hb)), List.append_assoc]
  rfl
theorem zHm {c : Nat} (h : nameC (c : Int) = true) : zEd (c : Int) = false ∧ (c : Int) ≠ 10 ∧ (c : Int) ≠ 33 ∧ zEj (c : Int) = true := by
 unfold nameC zGc zGy at h
 unfold zEd zEj
 simp only [Bool.or_eq_true, Bool.and_eq_true, decide_eq_true_eq, beq_iff_eq] at h
 refine ⟨?_, ?_, ?_, ?_⟩
 ·simp only [Bool.or_eq_false_iff, beq_eq_false_iff_ne]
  omega
 ·omega
 ·omega
 ·simp only [Bool.or_eq_true, Bool.and_eq_true, decide_eq_true_eq, beq_iff_eq]
  omega
theorem name_all {n : List UInt8} (h : nameB n = true) : ∀ b ∈ n, nameC b.toNat = true := by
 cases n with
 | nil => cases h
 | cons c r =>
  unfold nameB at h
  simp only [Bool.and_eq_true, decide_eq_true_eq] at h
  intro b hb
  rcases List.mem_cons.1 hb with rfl | hb
  ·unfold nameC; rw [h.1.2]; simp
  ·exact List.all_eq_true.1 h.2 b hb
theorem name_len {n : List UInt8} (h : nameB n = true) : n.length ≤ 15 ∧ n ≠ [] := by
 cases n with
 | nil => cases h
 | cons c r =>
  unfold nameB at h
  simp only [Bool.and_eq_true, decide_eq_true_eq] at h
  exact ⟨by simp only [List.length_cons]; omega, by simp⟩
def hostW : List UInt8 := [104, 111, 115, 116, 110, 97, 109, 101]
def tailL : List UInt8 := [110, 111, 32, 110, 97, 116, 10, 110, 111, 32, 114, 111, 117, 116, 101, 114, 32, 112, 118, 10]
theorem fields_host {n : List UInt8} (h : nameB n = true) : zCh 33 (hostW ++ 32 :: n) = [hostW, n] := by
 have hb := name_all h
 cases n with
 | nil => cases h
 | cons c r =>
  have hc := zHm (hb c (by simp))
  have e : zCh 33 (hostW ++ 32 :: c :: r) = hostW :: zAs 33 none (c :: r) := rfl
  rw [e]
  show hostW :: (if zEd c.toNat then zAs 33 none r else if (c.toNat : Int) = 33 then [] else zAs 33 (some [c]) r) = _
  rw [if_neg (by rw [hc.1]; decide), if_neg hc.2.2.1]
  have := fields_run 33 [] r [c] (fun b hb' => (zHm (hb b (List.mem_cons_of_mem _ hb'))).1)
  rw [List.append_nil] at this
  rw [this]
  rfl
def zHb (l n : List UInt8) : List UInt8 := l ++ 10 :: (hostW ++ 32 :: n ++ 10 :: tailL)
theorem later_fields (l n : List UInt8) (h : nameB n = true) : zCt (zHb l n) = zCt l ++ [hostW, n] :: [[[110, 111], [110, 97, 116]], [[110, 111], [114, 111, 117, 116, 101, 114], [112, 118]]] ∨ zCt (zHb l n) = (zCt l ++ [[]]) ++ [hostW, n] :: [[[110, 111], [110, 97, 116]], [[110, 111], [114, 111, 117, 116, 101, 114], [112, 118]]] := by
 have e1 : zBy (zHb l n) = zAp [] (l ++ [10]) ++ zAp [] (hostW ++ 32 :: n ++ 10 :: tailL) := zHz _ l []
 have hb : ∀ b ∈ hostW ++ 32 :: n, (b.toNat : Int) ≠ 10 := by
  intro b hb
  rcases List.mem_append.1 hb with hb | hb
  ·exact (show ∀ b ∈ hostW, (b.toNat : Int) ≠ 10 from by decide) b hb
  ·rcases List.mem_cons.1 hb with rfl | hb
   ·decide
   ·exact (zHm (name_all h b hb)).2.1
 have e2 : zAp [] (hostW ++ 32 :: n ++ 10 :: tailL) = (hostW ++ 32 :: n) :: zBy tailL := by
  rw [zIe _ _ _ hb]
  rfl
 have e3 : (zBy tailL).map (zCh 33) = [[[110, 111], [110, 97, 116]], [[110, 111], [114, 111, 117, 116, 101, 114], [112, 118]]] := by decide
 unfold zCt
 rw [e1, e2, List.map_append, List.map_cons, fields_host h, e3]
 rcases zJy l [] with h1 | h1
 ·left; rw [h1]; rfl
 ·right; rw [h1, List.map_append]; rfl
def later (n : List UInt8) (a : Al) : Al := { a with block := 0, name := n, nat := [], pvOn := false, ext := 0, int := 0, nb := [], net := [], ag := [], cd := [], pvRed := [] }
theorem bel_host (b : Int) : belB b hostW = false := by
 unfold belB
 repeat' split
 all_goals decide
theorem later_run (n : List UInt8) (a : Al) (k : Nat) (h : nameB n = true) : zBt ([hostW, n] :: [[[110, 111], [110, 97, 116]], [[110, 111], [114, 111, 117, 116, 101, 114], [112, 118]]]) k a = (later n a, none) := by
 have e1 : lineS [hostW, n] a = ({ a with block := 0, name := n }, true) := by
  rw [lineS_no a (by decide)]
  have hc : comS false hostW [n] a = ({ a with block := 0, name := n }, ⟨[], false⟩) := by
   unfold comS
   rw [bel_host]
   show globS hostW { a with block := 0 } ⟨[n], false⟩ = _
   have hm : nmS ⟨[n], false⟩ = ⟨[], false⟩ := by
    unfold nmS mustS
    rw [show wV ⟨[n], false⟩ = n from rfl, h]
    rfl
   show ({ a with block := 0, name := nmV ⟨[n], false⟩ }, nmS ⟨[n], false⟩) = _
   rw [hm]
   rfl
  rw [hc]
  rfl
 show (if (lineS [hostW, n] a).2 then zBt _ (k + 1) (lineS [hostW, n] a).1 else (a, some (k + 1))) = _
 rw [e1]
 rfl
theorem later_lines {l n : List UInt8} {a : Al} (h : nameB n = true) (hl : zBt (zCt l) 0 Al.zero = (a, none)) : zBt (zCt (zHb l n)) 0 Al.zero = (later n a, none) := by
 rcases later_fields l n h with e | e
 ·rw [e, zFi _ _ _ _ _ hl, later_run n a _ h]
 ·rw [e, List.append_assoc, zFi _ _ _ _ _ hl]
  show zBt ([hostW, n] :: _) _ a = _
  rw [later_run n a _ h]
theorem later_err {l n : List UInt8} (h : nameB n = true) (hl : zAy l = 0) (hn : l.length ≤ 2000) : zAy (zHb l n) = 0 := by
 have h1 := (name_len h).1
 have hlen : (zHb l n).length ≤ 65536 := by
  unfold zHb
  simp only [List.length_append, List.length_cons, hostW, tailL, List.length_nil]
  omega
 have hv : zBx l = true := by
  unfold zAy at hl
  rw [if_neg (by omega)] at hl
  cases hv : zBx l with
  | true => rfl
  | false => rw [hv] at hl; cases hl
 unfold zAy
 rw [if_neg (by omega)]
 have : zBx (zHb l n) = true := by
  unfold zBx zHb at *
  rw [List.all_eq_true] at *
  intro b hb
  rcases List.mem_append.1 hb with hb | hb
  ·exact hv b hb
  rcases List.mem_cons.1 hb with rfl | hb
  ·decide
  rcases List.mem_append.1 hb with hb | hb
  ·rcases List.mem_append.1 hb with hb | hb
   ·exact (show ∀ b ∈ hostW, zEj b.toNat = true from by decide) b hb
   ·rcases List.mem_cons.1 hb with rfl | hb
    ·decide
    ·exact (zHm (name_all h b hb)).2.2.2
  ·rcases List.mem_cons.1 hb with rfl | hb
   ·decide
   ·exact (show ∀ b ∈ tailL, zEj b.toNat = true from by decide) b hb
 rw [this]
 rfl
theorem zDz (a b : ByteArray) : bytes (a ++ b) = bytes a ++ bytes b := by simp [bytes, ByteArray.data_append]
theorem later_bytes (s : ByteArray) (nm : List UInt8) : bytes (s ++ ⟨#[10, 104, 111, 115, 116, 110, 97, 109, 101, 32]⟩ ++ str nm ++ ⟨#[10, 110, 111, 32, 110, 97, 116, 10, 110, 111, 32, 114, 111, 117, 116, 101, 114, 32, 112, 118, 10]⟩) = zHb (bytes s) nm := by
 rw [zDz, zDz, zDz, zBa]
 show bytes s ++ [10, 104, 111, 115, 116, 110, 97, 109, 101, 32] ++ nm ++ [10, 110, 111, 32, 110, 97, 116, 10, 110, 111, 32, 114, 111, 117, 116, 101, 114, 32, 112, 118, 10] = _
 simp [zHb, hostW, tailL]
theorem HasC.putE {T : TypeId} {g : Nat} {cs cs' : Array Value} {w : World} (h : HasC T g cs w) (j : Nat) (v : Value) (e : cs.setIfInBounds j v = cs') : HasC T g cs' (w.setCell ⟨g, j, none⟩ v) := by
 subst e
 exact Lib.heap_setCell_same (i := j) h v
theorem rt0_at (w : World) (B : Nat) : rt0.at w B := ⟨SlV.nil, SlV.nil, fun _ h => (by cases h), SlV.nil, fun _ h => (by cases h), SlV.nil, fun _ h => (by cases h), SlV.nil, SlV.nil, SlV.nil, SlV.nil, SlV.nil, SlV.nil, SlV.nil, SlV.nil, SlV.nil, SlV.nil⟩
theorem ParseP.out {E : Rt → Int} {l : List UInt8} {w w' : World} {e : Ending} (h : ParseP E l w e w') : Below w.heap.size w w' ∧ ∃ (r : Rt) (k f : Int), e = .returned (.tuple #[.agg r.C, .int .i64 k, .int .i64 f]) ∧
  (∀ (ks : List Nat) w'', (∀ k ∈ ks, k < w.heap.size) → Fr ks w' w'' → r.at w'' w''.heap.size) ∧
  (f = 0 → ∃ a, zAy l = 0 ∧ zBt (zCt l) 0 Al.zero = (a, none) ∧ r.plain = alRt a ∧ E r = 0) ∧
  (∀ a, zAy l = 0 → zBt (zCt l) 0 Al.zero = (a, none) → (∀ r : Rt, r.plain = alRt a → E r = 0) → f = 0) := by
 obtain ⟨hb, h1, h2⟩ := h
 refine ⟨hb, ?_⟩
 by_cases hl : zAy l = 0
 ·have h3 := h2 hl
  unfold ReadR at h3
  cases hk : zDk (-1) (zCt l) 0 Al.zero with
  | mk a o =>
  rw [hk] at h3
  rw [zGo] at hk
  cases o with
  | some n => exact ⟨rt0, _, _, h3, fun _ _ _ _ => rt0_at _ _, fun h => absurd h (by decide), fun a' _ h => by rw [hk] at h; cases h⟩
  | none =>
   obtain ⟨r, hp, hat, e1, e2⟩ := h3
   by_cases h0 : E r = 0
   ·exact ⟨r, _, _, e1 h0, hat, fun _ => ⟨a, hl, hk, hp, h0⟩, fun _ _ _ _ => rfl⟩
   ·refine ⟨rt0, _, _, e2 h0, fun _ _ _ _ => rt0_at _ _, fun h => absurd h h0, fun a' _ h hE => ?_⟩
    rw [hk] at h
    injection h with h _
    subst h
    exact hE r hp
 ·exact ⟨rt0, _, _, h1 hl, fun _ _ _ _ => rt0_at _ _, fun h => absurd h hl, fun _ h => absurd h hl⟩
def laterR (n : List UInt8) (r : Rt) : Rt := { r with name := n, natV := .slice none 0 0, nat := [], pvOn := false, ext := 0, int := 0, nbV := .slice none 0 0, nb := [], netV := .slice none 0 0, net := [], agV := .slice none 0 0, ag := [], cdV := .slice none 0 0, cd := [], pvRedV := .slice none 0 0, pvRed := [] }
theorem laterR_plain {n : List UInt8} {r : Rt} {a : Al} (h : r.plain = alRt a) : (laterR n r).plain = alRt (later n a) := by
 have e : (laterR n r).plain = laterR n r.plain := rfl
 rw [e, h]
 rfl
theorem laterR_at {n : List UInt8} {r : Rt} {w : World} {B : Nat} (h : r.at w B) : (laterR n r).at w B := ⟨h.hifs, h.hlists, h.nlists, h.hmaps, h.nmaps, h.hacls, h.nacls, SlV.nil, h.hstat, h.hranges, h.hlsRed, h.hdvRed, SlV.nil, SlV.nil, SlV.nil, SlV.nil, SlV.nil⟩
theorem later_gen (E : Rt → Int) (CR : ∀ (r : Rt) (w : World) (B : Nat), r.at w B → B ≤ w.heap.size → r.fit → Calls Tryz.prog 36 #[.agg r.C] w fun e w' => e = .returned (.int .i64 (E r)) ∧ Below w.heap.size w w')
  (h0 : ∀ r : Rt, r.plain = alRt saneA → E r = 0) (hL : ∀ (n : List UInt8) (a : Al) (r x : Rt), nameB n = true → r.plain = alRt a → E r = 0 → x.plain = alRt (later n a) → E x = 0)
  (s n : ByteArray) (w : World) (he : EnvA w.heap.size w) : Calls Tryz.prog 6 #[.string s, .string n] w fun e w' => e = .returned (.bool true) ∧ Below w.heap.size w w' := by
 have HP := hid (fun (t : ByteArray) (W : World) (hW : Below w.heap.size w W) => zIv E CR t W (by have h := he.keep hW; exact ⟨h.1, Nat.lt_of_lt_of_le h.2 hW.size⟩))
 have HSN := hid (fun (W : World) (hW : Below w.heap.size w W) => sane_gen E CR h0 W (by have h := he.keep hW; exact ⟨h.1, Nat.lt_of_lt_of_le h.2 hW.size⟩))
 have HL := hid hL
 clear he CR h0 hL
 obtain ⟨nm, rfl⟩ : ∃ nm, n = str nm := ⟨bytes n, (str_bytes n).symm⟩
 by_cases hs : 2000 < s.size
 ·have hsz : (2000 : Int) < (s.size : Int) := by omega
  go_enter Tryz.func6, Tryz.ntmps6
  go_wp2_with fail
  go_ret
  exact ⟨rfl, Below.refl _ _⟩
 have hsz : ¬ ((2000 : Int) < (s.size : Int)) := by omega
 have HSZ := hid hs
 clear hs
 go_enter Tryz.func6, Tryz.ntmps6
 go_wp2_with fail
 refine (rname_any (str nm) w).mono ?_
 rintro e w' ⟨rfl, rfl⟩
 rw [zBa]
 cases hn : nameB nm with
 | false =>
  go_wp2_with fail
  go_ret
  exact ⟨rfl, Below.refl _ _⟩
 | true =>
 have HN := hid hn
 have hns : (str nm).size ≤ 15 := by rw [zEa]; exact (name_len hn).1
 have hss : s.size ≤ 2000 := by omega
 clear hn
 go_wp2_with fail
 refine (HP.out s w (Below.refl _ _)).mono ?_
 intro e w1 h1
 obtain ⟨hb1, r, k1, f1, rfl, hat, hf, -⟩ := h1.out
 have HB1 := hid hb1
 have HAT := hid hat
 have HF := hid hf
 have HA1 := hid (hat [] w1 (fun _ h => by cases h) (Fr.refl _ _))
 clear h1 hb1 hat hf
 go_upto_region 4 with (refine zAd rfl 41 _ _ rfl rfl (ds := r.C) rfl (HasC.new _ _ _) rfl Tryz.sizeRt HA1.out.one ?_; intro w2 hz1 hz2)
 have HB2 := hid (zAn hz2)
 have X2 := hid hz1
 have HBW : Hid (Below w.heap.size w w2) := hid (HB1.out.trans (HB2.out.mono HB1.out.size))
 clear hz1 hz2
 go_wp2_with fail
 refine (HP.out _ w2 HBW.out).mono ?_
 intro e w3 h3
 rw [later_bytes] at h3
 obtain ⟨hb3, x, k2, f2, rfl, hat2, hf2, hg2⟩ := h3.out
 have HB3 := hid hb3
 have HAT2 := hid hat2
 have HF2 := hid hf2
 have HG2 := hid hg2
 have HA3 := hid (hat2 [] w3 (fun _ h => by cases h) (Fr.refl _ _))
 clear h3 hb3 hat2 hf2 hg2
 go_upto_region 5 with (refine zAd rfl 41 _ _ rfl rfl (ds := x.C) rfl (HasC.new _ _ _) rfl Tryz.sizeRt HA3.out.one ?_; intro w4 hz1 hz2)
 have HB4 := hid (zAn hz2)
 have X4 := hid hz1
 have HB24 : Hid (Below w2.heap.size w2 w4) := hid (HB3.out.trans (HB4.out.mono HB3.out.size))
 have X5 := hid (X2.out.keep HB24.out)
 have HBV : Hid (Below w.heap.size w w4) := hid (HBW.out.trans (HB24.out.mono HBW.out.size))
 have HB14 : Hid (Below w1.heap.size w1 w4) := hid (HB2.out.trans (HB24.out.mono HB2.out.size))
 have hlt12 : w1.heap.size < w2.heap.size := zBf X2.out
 have hlt3 : w2.heap.size ≤ w3.heap.size := HB3.out.size
 clear hz1 hz2
 by_cases hf : f1 = 0
 ·obtain ⟨a, hl, hk, hp, h00⟩ := HF.out hf
  have hl2 : (bytes s).length ≤ 2000 := by rw [zCc]; exact hss
  have hlz := later_lines HN.out hk
  have hfz : f2 = 0 := HG2.out (later nm a) (later_err HN.out hl hl2) hlz (fun y hy => HL.out nm a r y HN.out hp h00 hy)
  obtain ⟨a2, -, hk2, hp2, -⟩ := HF2.out hfz
  rw [hlz] at hk2
  injection hk2 with hk2 _
  subst hk2
  subst hf hfz
  have HPX := hid (hp2.trans (laterR_plain (n := nm) hp).symm)
  clear hl hk hp h00 hl2 hlz hp2
  obtain ⟨y0, c0⟩ : ∃ y, w4.cell? ⟨w1.heap.size, 0, none⟩ = .some y := ⟨_, X5.out.cell 0⟩
  obtain ⟨y6, c6⟩ : ∃ y, w4.cell? ⟨w1.heap.size, 6, none⟩ = .some y := ⟨_, X5.out.cell 6⟩
  obtain ⟨y17, c17⟩ : ∃ y, w4.cell? ⟨w1.heap.size, 17, none⟩ = .some y := ⟨_, X5.out.cell 17⟩
  obtain ⟨y18, c18⟩ : ∃ y, w4.cell? ⟨w1.heap.size, 18, none⟩ = .some y := ⟨_, X5.out.cell 18⟩
  obtain ⟨y19, c19⟩ : ∃ y, w4.cell? ⟨w1.heap.size, 19, none⟩ = .some y := ⟨_, X5.out.cell 19⟩
  obtain ⟨y20, c20⟩ : ∃ y, w4.cell? ⟨w1.heap.size, 20, none⟩ = .some y := ⟨_, X5.out.cell 20⟩
  obtain ⟨y21, c21⟩ : ∃ y, w4.cell? ⟨w1.heap.size, 21, none⟩ = .some y := ⟨_, X5.out.cell 21⟩
  obtain ⟨y22, c22⟩ : ∃ y, w4.cell? ⟨w1.heap.size, 22, none⟩ = .some y := ⟨_, X5.out.cell 22⟩
  obtain ⟨y23, c23⟩ : ∃ y, w4.cell? ⟨w1.heap.size, 23, none⟩ = .some y := ⟨_, X5.out.cell 23⟩
  obtain ⟨y24, c24⟩ : ∃ y, w4.cell? ⟨w1.heap.size, 24, none⟩ = .some y := ⟨_, X5.out.cell 24⟩
  have fz := X5.out.frz
  go_upto_region 8 with (fail)
  have XL : HasC 41 w1.heap.size (laterR nm r).C ((((((((((w4.setCell ⟨w1.heap.size, 0, none⟩ (.string (str nm))).setCell ⟨w1.heap.size, 6, none⟩ (.slice none 0 0)).setCell ⟨w1.heap.size, 17, none⟩ (.bool false)).setCell ⟨w1.heap.size, 18, none⟩ (.int .i64 0)).setCell ⟨w1.heap.size, 19, none⟩ (.int .i64 0)).setCell ⟨w1.heap.size, 20, none⟩ (.slice none 0 0)).setCell ⟨w1.heap.size, 21, none⟩ (.slice none 0 0)).setCell ⟨w1.heap.size, 22, none⟩ (.slice none 0 0)).setCell ⟨w1.heap.size, 23, none⟩ (.slice none 0 0)).setCell ⟨w1.heap.size, 24, none⟩ (.slice none 0 0)) := ((((((((((X5.out.putE (cs' := ({ r with name := nm } : Rt).C) 0 (.string (str nm)) rfl).putE (cs' := ({ r with name := nm, natV := .slice none 0 0 } : Rt).C) 6 (.slice none 0 0) rfl).putE (cs' := ({ r with name := nm, natV := .slice none 0 0, pvOn := false } : Rt).C) 17 (.bool false) rfl).putE (cs' := ({ r with name := nm, natV := .slice none 0 0, pvOn := false, ext := 0 } : Rt).C) 18 (.int .i64 0) rfl).putE (cs' := ({ r with name := nm, natV := .slice none 0 0, pvOn := false, ext := 0, int := 0 } : Rt).C) 19 (.int .i64 0) rfl).putE (cs' := ({ r with name := nm, natV := .slice none 0 0, pvOn := false, ext := 0, int := 0, nbV := .slice none 0 0 } : Rt).C) 20 (.slice none 0 0) rfl).putE (cs' := ({ r with name := nm, natV := .slice none 0 0, pvOn := false, ext := 0, int := 0, nbV := .slice none 0 0, netV := .slice none 0 0 } : Rt).C) 21 (.slice none 0 0) rfl).putE (cs' := ({ r with name := nm, natV := .slice none 0 0, pvOn := false, ext := 0, int := 0, nbV := .slice none 0 0, netV := .slice none 0 0, agV := .slice none 0 0 } : Rt).C) 22 (.slice none 0 0) rfl).putE (cs' := ({ r with name := nm, natV := .slice none 0 0, pvOn := false, ext := 0, int := 0, nbV := .slice none 0 0, netV := .slice none 0 0, agV := .slice none 0 0, cdV := .slice none 0 0 } : Rt).C) 23 (.slice none 0 0) rfl).putE (cs' := (laterR nm r).C) 24 (.slice none 0 0) rfl)
  have FR : Fr [w1.heap.size] w4 ((((((((((w4.setCell ⟨w1.heap.size, 0, none⟩ (.string (str nm))).setCell ⟨w1.heap.size, 6, none⟩ (.slice none 0 0)).setCell ⟨w1.heap.size, 17, none⟩ (.bool false)).setCell ⟨w1.heap.size, 18, none⟩ (.int .i64 0)).setCell ⟨w1.heap.size, 19, none⟩ (.int .i64 0)).setCell ⟨w1.heap.size, 20, none⟩ (.slice none 0 0)).setCell ⟨w1.heap.size, 21, none⟩ (.slice none 0 0)).setCell ⟨w1.heap.size, 22, none⟩ (.slice none 0 0)).setCell ⟨w1.heap.size, 23, none⟩ (.slice none 0 0)).setCell ⟨w1.heap.size, 24, none⟩ (.slice none 0 0)) := (((((((((((Fr.refl [w1.heap.size] w4).trans (Fr.set _ (by simp) _ _)).trans (Fr.set _ (by simp) _ _)).trans (Fr.set _ (by simp) _ _)).trans (Fr.set _ (by simp) _ _)).trans (Fr.set _ (by simp) _ _)).trans (Fr.set _ (by simp) _ _)).trans (Fr.set _ (by simp) _ _)).trans (Fr.set _ (by simp) _ _)).trans (Fr.set _ (by simp) _ _)).trans (Fr.set _ (by simp) _ _))
  have BL : Below w1.heap.size w4 ((((((((((w4.setCell ⟨w1.heap.size, 0, none⟩ (.string (str nm))).setCell ⟨w1.heap.size, 6, none⟩ (.slice none 0 0)).setCell ⟨w1.heap.size, 17, none⟩ (.bool false)).setCell ⟨w1.heap.size, 18, none⟩ (.int .i64 0)).setCell ⟨w1.heap.size, 19, none⟩ (.int .i64 0)).setCell ⟨w1.heap.size, 20, none⟩ (.slice none 0 0)).setCell ⟨w1.heap.size, 21, none⟩ (.slice none 0 0)).setCell ⟨w1.heap.size, 22, none⟩ (.slice none 0 0)).setCell ⟨w1.heap.size, 23, none⟩ (.slice none 0 0)).setCell ⟨w1.heap.size, 24, none⟩ (.slice none 0 0)) := (((((((((((Below.refl w1.heap.size w4).setCell (Nat.le_refl _) _).setCell (Nat.le_refl _) _).setCell (Nat.le_refl _) _).setCell (Nat.le_refl _) _).setCell (Nat.le_refl _) _).setCell (Nat.le_refl _) _).setCell (Nat.le_refl _) _).setCell (Nat.le_refl _) _).setCell (Nat.le_refl _) _).setCell (Nat.le_refl _) _)
  have XLH := hid XL
  have FRH := hid FR
  have BLH := hid BL
  clear XL FR BL fz c0 c6 c17 c18 c19 c20 c21 c22 c23 c24
  generalize ((((((((((w4.setCell ⟨w1.heap.size, 0, none⟩ (.string (str nm))).setCell ⟨w1.heap.size, 6, none⟩ (.slice none 0 0)).setCell ⟨w1.heap.size, 17, none⟩ (.bool false)).setCell ⟨w1.heap.size, 18, none⟩ (.int .i64 0)).setCell ⟨w1.heap.size, 19, none⟩ (.int .i64 0)).setCell ⟨w1.heap.size, 20, none⟩ (.slice none 0 0)).setCell ⟨w1.heap.size, 21, none⟩ (.slice none 0 0)).setCell ⟨w1.heap.size, 22, none⟩ (.slice none 0 0)).setCell ⟨w1.heap.size, 23, none⟩ (.slice none 0 0)).setCell ⟨w1.heap.size, 24, none⟩ (.slice none 0 0)) = wS at XLH FRH BLH ⊢
  have X4S := hid (HasC.fr X4.out FRH.out (fun hm => by have := List.mem_singleton.1 hm; omega))
  have HAX := hid (HAT2.out [w1.heap.size] wS (fun k hk => by have := List.mem_singleton.1 hk; omega) ((Fr.of_below HB4.out).trans FRH.out))
  have HBS : Hid (Below w1.heap.size w1 wS) := hid (HB14.out.trans BLH.out)
  have HAR := hid (laterR_at (n := nm) ((HA1.out.below HBS.out).lift HBS.out.size))
  have HBT : Hid (Below w.heap.size w wS) := hid (HBV.out.trans (BLH.out.mono HB1.out.size))
  have HSM := hid (same_any x (laterR nm r) wS wS.heap.size HAX.out HAR.out (Nat.le_refl _) HPX.out)
  clear HB14 hlt12 hlt3
  go_wp2_with (first | (refine zAx (by rfl) (zAa rfl 41 _ rfl rfl X4S.out.range Tryz.rowRt Tryz.sizeRt ?_)) | (refine zAx (by rfl) (zAa rfl 41 _ rfl rfl XLH.out.range Tryz.rowRt Tryz.sizeRt ?_)))
  refine HSM.out.mono ?_
  rintro e w6 ⟨rfl, hb6⟩
  have HBU : Hid (Below w.heap.size w w6) := hid (HBT.out.trans (hb6.mono HBT.out.size))
  clear hb6
  go_wp2_with fail
  refine (HSN.out w6 HBU.out).mono ?_
  rintro e w7 ⟨rfl, hb7⟩
  have HB7 := hid hb7
  clear hb7
  go_wp2_with fail
  go_ret
  exact ⟨rfl, HBU.out.trans (HB7.out.mono HBU.out.size)⟩
 ·have hfd : (f1 != 0) = true := by simpa using hf
  clear hf
  go_wp2_with fail
  refine (HSN.out w4 HBV.out).mono ?_
  rintro e w5 ⟨rfl, hb5⟩
  have HB5 := hid hb5
  clear hb5
  go_wp2_with fail
  go_ret
  exact ⟨rfl, HBV.out.trans (HB5.out.mono HBV.out.size)⟩
end Go.Proofs.YtoceoaiokkbjeaaGreatDoor
