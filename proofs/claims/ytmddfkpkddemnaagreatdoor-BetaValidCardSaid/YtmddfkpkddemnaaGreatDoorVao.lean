/- The walk of the statement BetaValid. Condition: Go's own tables lie in memory (EnvA). -/
import Derived.Test.YtmddfkpkddemnaaGreatDoorVy
import Derived.Test.YtmddfkpkddemnaaGreatDoorVam
import Derived.Test.YtmddfkpkddemnaaGreatDoorVan
import Derived.Test.YtmddfkpkddemnaaGreatDoorVal
namespace Go.Proofs.YtmddfkpkddemnaaGreatDoor
open Go.RowKit
set_option maxRecDepth 8000 in
set_option maxHeartbeats 8000000 in
theorem betaValid_gen (PR : PRt routerE) (s : ByteArray) (w : World) (he : EnvA w.heap.size w) : Calls Tryz.prog 4 #[.string s] w fun e w' => e = .returned (.bool true) ∧ Below w.heap.size w w' := by
  have HP := Lib.hid (PR s w he)
  have HSN := Lib.hid (fun (W : World) (hW : Below w.heap.size w W) => sane_gen routerE PR (by kernel_rfl) W ((he.keep hW).up hW.size))
  have HPO := Lib.hid (parseB_pos routerE (bytes s))
  clear he PR
  by_cases hs : 3000 < s.size
  · have hsz : (3000 : Int) < (s.size : Int) := by omega
    go_enter Tryz.func4, Tryz.ntmps4
    go_wp2_with fail
    go_ret
    exact ⟨rfl, Below.refl _ _⟩
  have hsz : ¬ ((3000 : Int) < (s.size : Int)) := by omega
  clear hs
  go_enter Tryz.func4, Tryz.ntmps4
  go_wp2_with fail
  refine HP.out.mono ?_
  rintro e w1 ⟨hb1, r, -, he1, hat, hz, hok⟩
  have hk0 := HPO.out
  generalize parseB routerE (bytes s) = x at he1 hz hok hk0
  obtain ⟨k, f, q⟩ := x
  dsimp only at he1 hz hok hk0
  subst he1
  have HB1 := Lib.hid hb1
  have HA1 := Lib.hid (hat [] w1 (fun _ h => by cases h) (Fr.refl _ _))
  have HZ := Lib.hid hz
  have HK := Lib.hid hok
  clear hb1 hat hz hok HP hsz HPO
  go_upto_region 4 with (refine wpList_storeRow rfl 41 _ _ rfl rfl (ds := r.C) rfl (HasC.new _ _ _) rfl Tryz.sizeRt HA1.out.one ?_; intro w2 hz1 hz2)
  have HB2 := Lib.hid (new_below hz2)
  have X2 := Lib.hid hz1
  have HBW : Hid (Below w.heap.size w w2) := Lib.hid (HB1.out.trans (HB2.out.mono HB1.out.size))
  have HA2 := Lib.hid ((HA1.out.below HB2.out).lift HB2.out.size)
  clear hz1 hz2 HA1
  by_cases hf : f = 0
  · obtain ⟨hfit, h0⟩ := HK.out hf
    subst hf
    have RC := Lib.hid (rcheck_ok r w2 w2.heap.size (Nat.le_refl _) HA2.out hfit h0)
    clear h0 hfit HK HZ hk0
    go_wp2_with (refine wpList_loadRow rfl 41 _ rfl rfl X2.out.range Tryz.rowRt Tryz.sizeRt ?_)
    refine RC.out.mono ?_
    rintro e w3 ⟨rfl, hb⟩
    have HB3 : Hid (Below w.heap.size w w3) := Lib.hid (HBW.out.trans (hb.mono HBW.out.size))
    clear hb RC
    go_wp2_with fail
    refine (HSN.out w3 HB3.out).mono ?_
    rintro e w4 ⟨rfl, hb⟩
    have HB4 : Hid (Below w.heap.size w w4) := Lib.hid (HB3.out.trans (hb.mono HB3.out.size))
    clear hb
    go_wp2_with fail
    go_ret
    exact ⟨rfl, HB4.out⟩
  · obtain rfl := HZ.out hf
    have d0 : (f != 0) = true := by simpa using hf
    have d1 : (f == 0) = false := by simpa using hf
    have SM := Lib.hid (zSame w2)
    clear HK HZ hf
    go_wp2_with (refine wpList_loadRow rfl 41 _ rfl rfl X2.out.range Tryz.rowRt Tryz.sizeRt ?_)
    refine SM.out.mono ?_
    rintro e w3 ⟨rfl, hb⟩
    have HB3 : Hid (Below w.heap.size w w3) := Lib.hid (HBW.out.trans (hb.mono HBW.out.size))
    clear hb SM
    go_wp2_with fail
    refine (HSN.out w3 HB3.out).mono ?_
    rintro e w4 ⟨rfl, hb⟩
    have HB4 : Hid (Below w.heap.size w w4) := Lib.hid (HB3.out.trans (hb.mono HB3.out.size))
    clear hb
    go_wp2_with fail
    go_ret
    exact ⟨rfl, HB4.out⟩
end Go.Proofs.YtmddfkpkddemnaaGreatDoor
namespace Go.Proofs.YtmddfkpkddemnaaGreatDoor
open Go.RowKit
theorem betaValid_walk (s : ByteArray) (w : World) (he : EnvA w.heap.size w) : Calls Tryz.prog 4 #[.string s] w fun e w' => e = .returned (.bool true) ∧ Below w.heap.size w w' := betaValid_gen bParse_any s w he
end Go.Proofs.YtmddfkpkddemnaaGreatDoor
