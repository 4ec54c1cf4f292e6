/- The walks of the laws AddrParses, AddrTexts, AddrMasks, AddrOrder, AddrRoundTrip. Conditions: Env, the library's own tables. -/
import Derived.Test.YtaabmekdnkcdaaaDoorAddrJ
namespace Go.Proofs.YtaabmekdnkcdaaaDoor
open Go.RowKit

set_option maxHeartbeats 1000000 in
theorem addrParses_walk (s : ByteArray) (w : World) (he : Env w) : Calls Tryd.prog 3 #[.string s] w fun e w' => e = .returned (.bool true) ∧ Below w.heap.size w w' := by
  have HE := Lib.hid he
  clear he
  by_cases h : 60 < s.size
  · go_enter Tryd.func3, Tryd.ntmps3
    go_wp2_with fail
    go_ret
    exact ⟨rfl, Below.refl _ _⟩
  · have d1 : decide ((60 : Int) < s.size) = false := by simp; omega
    have HP := Lib.hid (parse_any s w HE.out (by omega))
    have HR := Lib.hid (fun w => rparse_any s w (by omega))
    generalize parseA (bytes s) = o at HP HR
    go_enter Tryd.func3, Tryd.ntmps3
    go_wp2_with fail
    refine HP.out.mono ?_
    rintro e w1 ⟨rfl, hb1⟩
    go_wp2_with fail
    refine (HR.out _).mono ?_
    rintro e w2 ⟨rfl, hb2⟩
    go_wp2_with fail
    have z1 := hb1.size
    have z2 := hb2.size
    have B2 : Below w.heap.size w w2 := hb1.trans (hb2.mono z1)
    refine (sane2_any _ (HE.out.below B2)).mono ?_
    rintro e w3 ⟨rfl, hb3⟩
    go_wp2_with fail
    go_ret
    exact ⟨rfl, B2.trans (hb3.mono (by omega))⟩
end Go.Proofs.YtaabmekdnkcdaaaDoor
