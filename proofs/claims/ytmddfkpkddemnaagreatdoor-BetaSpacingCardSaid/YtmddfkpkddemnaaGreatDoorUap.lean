/- The walks of beta's forms that turn the router: the reader's methods, the closures over one pointer. Conditions: no word is longer than 10^9 bytes; Go's own tables lie below (EnvA); the router is within bounds (RtI). -/
import Derived.Test.YtmddfkpkddemnaaGreatDoorUao
import Derived.Test.YtmddfkpkddemnaaGreatDoorUab
import Derived.Deep.DeepCutAuto
import Derived.Deep.CutBlock
namespace Go.Proofs.YtmddfkpkddemnaaGreatDoor
open Go.RowKit
set_option maxRecDepth 8000 in
set_option maxHeartbeats 8000000 in
theorem top_form : FormC .top := by
  intro g B b k w0 w r K kb p fv h hf he hs hr hk
  obtain rfl : fv = .func (.func 38) #[.pointer (some ⟨g, 0, none⟩)] #[] := hf
  refine ⟨38, #[.pointer (some ⟨g, 0, none⟩)], #[], rfl, enters_of Tryz.func38 (by kernel_rfl) rfl, ?_⟩
  show Calls Tryz.prog 38 #[.pointer (some ⟨g, 0, none⟩), .pointer (some ⟨b, 0, none⟩)] w _
  have H := Lib.hid h
  have HE := Lib.hid he
  have HS := Lib.hid hs
  have HR := Lib.hid hr
  have HK := Lib.hid hk
  clear h he hs hr hk
  have q0 : ((str (wV p)).toList == [115, 121, 115, 116, 101, 109]) = (wV p == [115, 121, 115, 116, 101, 109]) := by rw [toList_str]
  have q1 : ((str (wV p)).toList == [105, 110, 116, 101, 114, 102, 97, 99, 101, 115]) = (wV p == [105, 110, 116, 101, 114, 102, 97, 99, 101, 115]) := by rw [toList_str]
  have q2 : ((str (wV p)).toList == [112, 114, 101, 102, 105, 120, 45, 108, 105, 115, 116]) = (wV p == [112, 114, 101, 102, 105, 120, 45, 108, 105, 115, 116]) := by rw [toList_str]
  have q3 : ((str (wV p)).toList == [112, 111, 108, 105, 99, 121]) = (wV p == [112, 111, 108, 105, 99, 121]) := by rw [toList_str]
  have q4 : ((str (wV p)).toList == [102, 105, 108, 116, 101, 114]) = (wV p == [102, 105, 108, 116, 101, 114]) := by rw [toList_str]
  have q5 : ((str (wV p)).toList == [116, 114, 97, 110, 115, 108, 97, 116, 105, 111, 110]) = (wV p == [116, 114, 97, 110, 115, 108, 97, 116, 105, 111, 110]) := by rw [toList_str]
  have q6 : ((str (wV p)).toList == [115, 116, 97, 116, 105, 99]) = (wV p == [115, 116, 97, 116, 105, 99]) := by rw [toList_str]
  have q7 : ((str (wV p)).toList == [108, 105, 110, 107, 45, 115, 116, 97, 116, 101]) = (wV p == [108, 105, 110, 107, 45, 115, 116, 97, 116, 101]) := by rw [toList_str]
  have q8 : ((str (wV p)).toList == [100, 105, 115, 116, 97, 110, 99, 101, 45, 118, 101, 99, 116, 111, 114]) = (wV p == [100, 105, 115, 116, 97, 110, 99, 101, 45, 118, 101, 99, 116, 111, 114]) := by rw [toList_str]
  have q9 : ((str (wV p)).toList == [112, 97, 116, 104, 45, 118, 101, 99, 116, 111, 114]) = (wV p == [112, 97, 116, 104, 45, 118, 101, 99, 116, 111, 114]) := by rw [toList_str]
  have hmf : ∀ (fn : Fn) (first cap : Array Value) (w : World), (Instr.makeFunc fn first cap).run Tryz.prog w = .ok (.func fn first cap) w := fun _ _ _ _ => rfl
  have s1 := wV_short HS.out
  have s2 : (str (nmV (wS p))).size ≤ 1000000000 := wV_short (short_wS HS.out)
  have b1 : ¬ (9223372036854775807 < (str (wV p)).size + 1) := by omega
  have b2 : ¬ (9223372036854775807 < (str (wV p)).size + 1 + (str (nmV (wS p))).size) := by omega
  go_enter Tryz.func38, Tryz.ntmps38
  go_wp2_with fail
  refine (wnext_any b B p _ H.out.st).mono ?_
  rintro e w1 ⟨rfl, h1, k1⟩
  have H1 := Lib.hid (H.out.word h1 k1)
  clear h1 k1
  unfold strV
  cases e0 : (wV p == [115, 121, 115, 116, 101, 109]) with
  | true =>
    rw [e0] at q0
    have E : Hid (topF r.plain p = (wV p, some .system, (r).plain, wS p)) := Lib.hid (by unfold topF; rw [e0]; rfl)
    go_wp2_with fail
    go_ret2
    exact ⟨_, some .system, r, _, [], _, E.out, rfl, H1.out, fun h => absurd rfl h, fun _ q => q, ⟨by decide, rfl, rfl⟩, fun _ h => by cases h⟩
  | false =>
    rw [e0] at q0
    cases e1 : (wV p == [105, 110, 116, 101, 114, 102, 97, 99, 101, 115]) with
    | true =>
      rw [e1] at q1
      have E : Hid (topF r.plain p = (wV p, some .interfaces, (r).plain, wS p)) := Lib.hid (by unfold topF; rw [e0, e1]; rfl)
      go_wp2_with fail
      go_ret2
      exact ⟨_, some .interfaces, r, _, [], _, E.out, rfl, H1.out, fun h => absurd rfl h, fun _ q => q, ⟨by decide, rfl, rfl⟩, fun _ h => by cases h⟩
    | false =>
      rw [e1] at q1
      cases e2 : (wV p == [112, 114, 101, 102, 105, 120, 45, 108, 105, 115, 116]) with
      | true =>
        rw [e2] at q2
        have E : Hid (∀ v : Value, topF r.plain p = (nmK (wV p) (nmV (wS p)), some .prefixRules, ({ r with listsV := v, lists := r.lists ++ [⟨nmV (wS p), .slice none 0 0, []⟩] } : Rt).plain, nmS (wS p))) := Lib.hid (fun v => by unfold topF; rw [e0, e1, e2]; simp only [Bool.false_eq_true, if_false, if_true, Rt.plain, List.map_append, List.map_cons, List.map_nil])
        have ret : ∀ iv : Value, Ending.returned (.tuple #[.string (str (wV p) ++ ⟨#[32]⟩ ++ str (nmV (wS p))), iv]) = .returned (.tuple #[strV (nmK (wV p) (nmV (wS p))), iv]) := fun iv => by rw [str_nmK]; rfl
        have hbd : r.lists.length ≤ 1000000000 := (by have h := HR.out.lists.1; rw [lenL] at h; have := HK.out; omega)
        go_wp2_with fail
        have D1 := Lib.hid H1.out.drew
        go_region_held3 (fun _ => True) (trivial) (first | ((with_reducible refine (wname_any b B (wS p) _ D1.out.st).mono ?_); rintro e w2 ⟨rfl, h2, k2⟩; have H2 := Lib.hid (D1.out.word h2 k2); clear h2 k2; unfold strV) | ((refine (add_lists H2.out (nmV (wS p)) hbd).mono ?_); rintro e w3 ⟨gg, cap, cur, rfl, h3, a3⟩; have H3 := Lib.hid h3; have A3 := Lib.hid a3; clear h3 a3))
        go_wp2_with fail
        have D3 := Lib.hid H3.out.drew
        have cn : w3.drew.cell? ⟨gg, r.lists.length * 2, none⟩ = some (.string (str (nmV (wS p)))) := A3.out.cell (j := 0) (show 0 < 2 from by decide)
        have gl : gg < w3.heap.size := A3.out.lt
        have cna : ∀ o, ((w3.alloc o).drew).cell? ⟨gg, r.lists.length * 2, none⟩ = some (.string (str (nmV (wS p)))) := fun o => (World.cell?_alloc_lt w3 o ⟨gg, r.lists.length * 2, none⟩ gl).trans cn
        go_region_held3 (fun w' => w'.cell? ⟨gg, r.lists.length * 2, none⟩ = some (.string (str (nmV (wS p))))) (first | assumption | with_reducible exact cna _) (((with_reducible refine (new_prefixRules _ _).mono ?_); rintro e w4 ⟨rfl, rfl⟩; have H4 := Lib.hid (D3.out.box (.cells #[.pointer (some ⟨gg, r.lists.length * 2, none⟩)] 150))))
        all_goals
          go_wp2_with fail
          go_ret2
          exact ⟨_, some .prefixRules, _, _, [_], _, E.out _, ret _, H4.out, fun h => absurd rfl h, fun _ q => q, ⟨by decide, rfl, gg, cap, r.lists, _, _, rfl, rfl, rfl, List.mem_cons_self⟩, fun k hk => by obtain rfl := List.mem_singleton.1 hk; exact ⟨_, _, rfl⟩⟩
      | false =>
        rw [e2] at q2
        cases e3 : (wV p == [112, 111, 108, 105, 99, 121]) with
        | true =>
          rw [e3] at q3
          have E : Hid (∀ v : Value, topF r.plain p = (nmK (wV p) (nmV (wS p)), some .clauses, ({ r with mapsV := v, maps := r.maps ++ [⟨nmV (wS p), .slice none 0 0, []⟩] } : Rt).plain, nmS (wS p))) := Lib.hid (fun v => by unfold topF; rw [e0, e1, e2, e3]; simp only [Bool.false_eq_true, if_false, if_true, Rt.plain, List.map_append, List.map_cons, List.map_nil])
          have ret : ∀ iv : Value, Ending.returned (.tuple #[.string (str (wV p) ++ ⟨#[32]⟩ ++ str (nmV (wS p))), iv]) = .returned (.tuple #[strV (nmK (wV p) (nmV (wS p))), iv]) := fun iv => by rw [str_nmK]; rfl
          have hbd : r.maps.length ≤ 1000000000 := (by have h := HR.out.maps.1; rw [lenM] at h; have := HK.out; omega)
          go_wp2_with fail
          have D1 := Lib.hid H1.out.drew
          go_region_held3 (fun _ => True) (trivial) (first | ((with_reducible refine (wname_any b B (wS p) _ D1.out.st).mono ?_); rintro e w2 ⟨rfl, h2, k2⟩; have H2 := Lib.hid (D1.out.word h2 k2); clear h2 k2; unfold strV) | ((refine (add_maps H2.out (nmV (wS p)) hbd).mono ?_); rintro e w3 ⟨gg, cap, cur, rfl, h3, a3⟩; have H3 := Lib.hid h3; have A3 := Lib.hid a3; clear h3 a3))
          go_wp2_with fail
          have D3 := Lib.hid H3.out.drew
          have cn : w3.drew.cell? ⟨gg, r.maps.length * 2, none⟩ = some (.string (str (nmV (wS p)))) := A3.out.cell (j := 0) (show 0 < 2 from by decide)
          have gl : gg < w3.heap.size := A3.out.lt
          have cna : ∀ o, ((w3.alloc o).drew).cell? ⟨gg, r.maps.length * 2, none⟩ = some (.string (str (nmV (wS p)))) := fun o => (World.cell?_alloc_lt w3 o ⟨gg, r.maps.length * 2, none⟩ gl).trans cn
          go_region_held3 (fun w' => w'.cell? ⟨gg, r.maps.length * 2, none⟩ = some (.string (str (nmV (wS p))))) (first | assumption | with_reducible exact cna _) (((with_reducible refine (new_clauses _ _).mono ?_); rintro e w4 ⟨rfl, rfl⟩; have H4 := Lib.hid (D3.out.box (.cells #[.pointer (some ⟨gg, r.maps.length * 2, none⟩)] 154))))
          all_goals
            go_wp2_with fail
            go_ret2
            exact ⟨_, some .clauses, _, _, [_], _, E.out _, ret _, H4.out, fun h => absurd rfl h, fun _ q => q, ⟨by decide, rfl, gg, cap, r.maps, _, _, rfl, rfl, rfl, List.mem_cons_self⟩, fun k hk => by obtain rfl := List.mem_singleton.1 hk; exact ⟨_, _, rfl⟩⟩
        | false =>
          rw [e3] at q3
          cases e4 : (wV p == [102, 105, 108, 116, 101, 114]) with
          | true =>
            rw [e4] at q4
            have E : Hid (∀ v : Value, topF r.plain p = (nmK (wV p) (nmV (wS p)), some .rules, ({ r with aclsV := v, acls := r.acls ++ [⟨nmV (wS p), .slice none 0 0, []⟩] } : Rt).plain, nmS (wS p))) := Lib.hid (fun v => by unfold topF; rw [e0, e1, e2, e3, e4]; simp only [Bool.false_eq_true, if_false, if_true, Rt.plain, List.map_append, List.map_cons, List.map_nil])
            have ret : ∀ iv : Value, Ending.returned (.tuple #[.string (str (wV p) ++ ⟨#[32]⟩ ++ str (nmV (wS p))), iv]) = .returned (.tuple #[strV (nmK (wV p) (nmV (wS p))), iv]) := fun iv => by rw [str_nmK]; rfl
            have hbd : r.acls.length ≤ 1000000000 := (by have h := HR.out.acls.1; rw [lenA] at h; have := HK.out; omega)
            go_wp2_with fail
            have D1 := Lib.hid H1.out.drew
            go_region_held3 (fun _ => True) (trivial) (first | ((with_reducible refine (wname_any b B (wS p) _ D1.out.st).mono ?_); rintro e w2 ⟨rfl, h2, k2⟩; have H2 := Lib.hid (D1.out.word h2 k2); clear h2 k2; unfold strV) | ((refine (add_acls H2.out (nmV (wS p)) hbd).mono ?_); rintro e w3 ⟨gg, cap, cur, rfl, h3, a3⟩; have H3 := Lib.hid h3; have A3 := Lib.hid a3; clear h3 a3))
            go_wp2_with fail
            have D3 := Lib.hid H3.out.drew
            have cn : w3.drew.cell? ⟨gg, r.acls.length * 2, none⟩ = some (.string (str (nmV (wS p)))) := A3.out.cell (j := 0) (show 0 < 2 from by decide)
            have gl : gg < w3.heap.size := A3.out.lt
            have cna : ∀ o, ((w3.alloc o).drew).cell? ⟨gg, r.acls.length * 2, none⟩ = some (.string (str (nmV (wS p)))) := fun o => (World.cell?_alloc_lt w3 o ⟨gg, r.acls.length * 2, none⟩ gl).trans cn
            go_region_held3 (fun w' => w'.cell? ⟨gg, r.acls.length * 2, none⟩ = some (.string (str (nmV (wS p))))) (first | assumption | with_reducible exact cna _) (((with_reducible refine (new_rules _ _).mono ?_); rintro e w4 ⟨rfl, rfl⟩; have H4 := Lib.hid (D3.out.box (.cells #[.pointer (some ⟨gg, r.acls.length * 2, none⟩)] 158))))
            all_goals
              go_wp2_with fail
              go_ret2
              exact ⟨_, some .rules, _, _, [_], _, E.out _, ret _, H4.out, fun h => absurd rfl h, fun _ q => q, ⟨by decide, rfl, gg, cap, r.acls, _, _, rfl, rfl, rfl, List.mem_cons_self⟩, fun k hk => by obtain rfl := List.mem_singleton.1 hk; exact ⟨_, _, rfl⟩⟩
          | false =>
            rw [e4] at q4
            cases e5 : (wV p == [116, 114, 97, 110, 115, 108, 97, 116, 105, 111, 110]) with
            | true =>
              rw [e5] at q5
              have E : Hid (topF r.plain p = (wV p, some .translations, (r).plain, wS p)) := Lib.hid (by unfold topF; rw [e0, e1, e2, e3, e4, e5]; rfl)
              go_wp2_with fail
              go_ret2
              exact ⟨_, some .translations, r, _, [], _, E.out, rfl, H1.out, fun h => absurd rfl h, fun _ q => q, ⟨by decide, rfl, rfl⟩, fun _ h => by cases h⟩
            | false =>
              rw [e5] at q5
              cases e6 : (wV p == [115, 116, 97, 116, 105, 99]) with
              | true =>
                rw [e6] at q6
                have E : Hid (topF r.plain p = (wV p, some .statics, (r).plain, wS p)) := Lib.hid (by unfold topF; rw [e0, e1, e2, e3, e4, e5, e6]; rfl)
                go_wp2_with fail
                go_ret2
                exact ⟨_, some .statics, r, _, [], _, E.out, rfl, H1.out, fun h => absurd rfl h, fun _ q => q, ⟨by decide, rfl, rfl⟩, fun _ h => by cases h⟩
              | false =>
                rw [e6] at q6
                cases e7 : (wV p == [108, 105, 110, 107, 45, 115, 116, 97, 116, 101]) with
                | true =>
                  rw [e7] at q7
                  have E : Hid (topF r.plain p = (wV p, some .linkState, ({ r with lsOn := true, lsAdmin := 10 }).plain, wS p)) := Lib.hid (by unfold topF; rw [e0, e1, e2, e3, e4, e5, e6, e7]; rfl)
                  obtain ⟨y8, c8⟩ := H1.out.toBR.cellx 8 (by decide)
                  have fz := H1.out.toBR.frz
                  obtain ⟨y9, c9⟩ := H1.out.toBR.cellx 9 (by decide)
                  go_wp2_with fail
                  clear c8 fz c9
                  refine (new_linkState _ _).mono ?_
                  rintro e w2 ⟨rfl, rfl⟩
                  have H2 := Lib.hid (((H1.out.put (r' := { r with lsOn := true }) 8 _ rfl rfl).put (r' := { r with lsOn := true, lsAdmin := 10 }) 9 _ rfl rfl).box (.cells #[.pointer (some ⟨g, 8, none⟩)] 163))
                  go_wp2_with fail
                  go_ret2
                  exact ⟨_, some .linkState, { r with lsOn := true, lsAdmin := 10 }, _, [_], _, E.out, rfl, H2.out, fun h => absurd rfl h, fun _ q => q, ⟨by decide, rfl, _, rfl, by simp [World.setCell]⟩, fun k hk => by obtain rfl := List.mem_singleton.1 hk; exact ⟨_, _, rfl⟩⟩
                | false =>
                  rw [e7] at q7
                  cases e8 : (wV p == [100, 105, 115, 116, 97, 110, 99, 101, 45, 118, 101, 99, 116, 111, 114]) with
                  | true =>
                    rw [e8] at q8
                    have E : Hid (topF r.plain p = (wV p, some .distance, ({ r with dvOn := true, dvAdmin := 100 }).plain, wS p)) := Lib.hid (by unfold topF; rw [e0, e1, e2, e3, e4, e5, e6, e7, e8]; rfl)
                    obtain ⟨y12, c12⟩ := H1.out.toBR.cellx 12 (by decide)
                    have fz := H1.out.toBR.frz
                    obtain ⟨y13, c13⟩ := H1.out.toBR.cellx 13 (by decide)
                    go_wp2_with fail
                    clear c12 fz c13
                    refine (new_distanceVector _ _).mono ?_
                    rintro e w2 ⟨rfl, rfl⟩
                    have H2 := Lib.hid (((H1.out.put (r' := { r with dvOn := true }) 12 _ rfl rfl).put (r' := { r with dvOn := true, dvAdmin := 100 }) 13 _ rfl rfl).box (.cells #[.pointer (some ⟨g, 12, none⟩)] 165))
                    go_wp2_with fail
                    go_ret2
                    exact ⟨_, some .distance, { r with dvOn := true, dvAdmin := 100 }, _, [_], _, E.out, rfl, H2.out, fun h => absurd rfl h, fun _ q => q, ⟨by decide, rfl, _, rfl, by simp [World.setCell]⟩, fun k hk => by obtain rfl := List.mem_singleton.1 hk; exact ⟨_, _, rfl⟩⟩
                  | false =>
                    rw [e8] at q8
                    cases e9 : (wV p == [112, 97, 116, 104, 45, 118, 101, 99, 116, 111, 114]) with
                    | true =>
                      rw [e9] at q9
                      have E : Hid (topF r.plain p = (wV p, some .path, ({ r with pvOn := true, ext := 170, int := 170 }).plain, wS p)) := Lib.hid (by unfold topF; rw [e0, e1, e2, e3, e4, e5, e6, e7, e8, e9]; rfl)
                      obtain ⟨y17, c17⟩ := H1.out.toBR.cellx 17 (by decide)
                      have fz := H1.out.toBR.frz
                      obtain ⟨y18, c18⟩ := H1.out.toBR.cellx 18 (by decide)
                      obtain ⟨y19, c19⟩ := H1.out.toBR.cellx 19 (by decide)
                      go_wp2_with fail
                      clear c17 fz c18 c19
                      refine (new_pathVector _ _).mono ?_
                      rintro e w2 ⟨rfl, rfl⟩
                      have H2 := Lib.hid ((((H1.out.put (r' := { r with pvOn := true }) 17 _ rfl rfl).put (r' := { r with pvOn := true, ext := 170 }) 18 _ rfl rfl).put (r' := { r with pvOn := true, ext := 170, int := 170 }) 19 _ rfl rfl).box (.cells #[.pointer (some ⟨g, 17, none⟩)] 167))
                      go_wp2_with fail
                      go_ret2
                      exact ⟨_, some .path, { r with pvOn := true, ext := 170, int := 170 }, _, [_], _, E.out, rfl, H2.out, fun h => absurd rfl h, fun _ q => q, ⟨by decide, rfl, _, rfl, by simp [World.setCell]⟩, fun k hk => by obtain rfl := List.mem_singleton.1 hk; exact ⟨_, _, rfl⟩⟩
                    | false =>
                      rw [e9] at q9
                      have E : Hid (topF r.plain p = ([], none, (r).plain, (wS p).fail)) := Lib.hid (by unfold topF; rw [e0, e1, e2, e3, e4, e5, e6, e7, e8, e9]; rfl)
                      have fb := H1.out.st.frz 2
                      have cb := H1.out.st.bad1
                      go_wp2_with fail
                      clear fb cb
                      go_ret2
                      exact ⟨_, none, r, _, [], .nilFunc, E.out, rfl, H1.out.bad, fun h => absurd rfl h, fun _ q => q, rfl, fun _ h => by cases h⟩
end Go.Proofs.YtmddfkpkddemnaaGreatDoor
namespace Go.Proofs.YtmddfkpkddemnaaGreatDoor
open Go.RowKit
set_option maxRecDepth 8000 in
set_option maxHeartbeats 8000000 in
theorem translations_form : FormC .translations := by
  intro g B b k w0 w r K kb p fv h hf he hs hr hk
  obtain rfl : fv = .func (.func 83) #[.pointer (some ⟨g, 0, none⟩)] #[] := hf
  refine ⟨83, #[.pointer (some ⟨g, 0, none⟩)], #[], rfl, enters_of Tryz.func83 (by kernel_rfl) rfl, ?_⟩
  show Calls Tryz.prog 83 #[.pointer (some ⟨g, 0, none⟩), .pointer (some ⟨b, 0, none⟩)] w _
  have H := Lib.hid h
  have HE := Lib.hid he
  have HS := Lib.hid hs
  have HR := Lib.hid hr
  have HK := Lib.hid hk
  clear h he hs hr hk
  have q0 : ((str (wV p)).toList == [115, 116, 97, 116, 105, 99]) = (wV p == [115, 116, 97, 116, 105, 99]) := by rw [toList_str]
  have q1 : ((str (wV p)).toList == [112, 111, 111, 108]) = (wV p == [112, 111, 111, 108]) := by rw [toList_str]
  have q2 : ((str (wV p)).toList == [102, 111, 114, 119, 97, 114, 100]) = (wV p == [102, 111, 114, 119, 97, 114, 100]) := by rw [toList_str]
  go_enter Tryz.func83, Tryz.ntmps83
  go_upto_region 2 with (fail)
  have X0 := Lib.hid (BX.new H.out 69 (Tr.C ⟨0, 0, 0, 0, 0, 0, [], 0, 0⟩))
  change Code.wp _ _ _ _ (w.alloc (.cells (Tr.C ⟨0, 0, 0, 0, 0, 0, [], 0, 0⟩) 69))
  generalize w.alloc (.cells (Tr.C ⟨0, 0, 0, 0, 0, 0, [], 0, 0⟩) 69) = wA at X0 ⊢
  go_wp2_with fail
  refine (wnext_any b B p _ X0.out.st).mono ?_
  rintro e w1 ⟨rfl, h1, k1⟩
  have H1 := Lib.hid (X0.out.word h1 k1)
  clear h1 k1
  unfold strV
  go_upto_block 0 with (fail)
  go_cut [] (fun wx => BX g B w0 r K (147, kb) b (natF p).2 w.heap.size 69 (Tr.C (natF p).1) wx)
  case first =>
    cases e0 : (wV p == [115, 116, 97, 116, 105, 99]) with
    | true =>
      rw [e0] at q0
      have EC : Hid (natF p = (⟨1, adV (wS p), adV (adS (wS p)), 0, 0, 0, [], 0, 0⟩, adS (adS (wS p)))) := Lib.hid (by unfold natF; dsimp only; rw [e0]; rfl)
      obtain ⟨y0, c0⟩ := H1.out.cellx (j := 0) (show 0 < 9 from by decide)
      have fz := H1.out.frz
      go_wp2_with fail
      clear c0 fz
      refine (waddress_any b B (wS p) _ (H1.out.put 0 _ rfl).st ((H1.out.put 0 _ rfl).env HE.out) (short_wS HS.out)).mono ?_
      rintro e w2 ⟨rfl, h2, k2⟩
      have H2 := Lib.hid ((H1.out.put 0 _ rfl).word h2 k2)
      clear h2 k2
      obtain ⟨y1, c1⟩ := H2.out.cellx (j := 1) (show 1 < 9 from by decide)
      have fz := H2.out.frz
      go_wp2_with fail
      clear c1 fz
      refine (waddress_any b B (adS (wS p)) _ (H2.out.put 1 _ rfl).st ((H2.out.put 1 _ rfl).env HE.out) (short_ad (short_wS HS.out))).mono ?_
      rintro e w3 ⟨rfl, h3, k3⟩
      have H3 := Lib.hid ((H2.out.put 1 _ rfl).word h3 k3)
      clear h3 k3
      obtain ⟨y2, c2⟩ := H3.out.cellx (j := 2) (show 2 < 9 from by decide)
      have fz := H3.out.frz
      go_wp2_with fail
      clear c2 fz
      go_meet
      rw [EC.out]
      exact (H3.out.put 2 _ rfl)
    | false =>
      rw [e0] at q0
      cases e1 : (wV p == [112, 111, 111, 108]) with
      | true =>
        rw [e1] at q1
        have EC : Hid (natF p = (⟨2, 0, 0, 0, 0, 0, nmV (wS p), adV (nmS (wS p)), adV (adS (nmS (wS p)))⟩, adS (adS (nmS (wS p))))) := Lib.hid (by unfold natF; dsimp only; rw [e0, e1]; rfl)
        obtain ⟨y0, c0⟩ := H1.out.cellx (j := 0) (show 0 < 9 from by decide)
        have fz := H1.out.frz
        go_wp2_with fail
        clear c0 fz
        refine (wname_any b B (wS p) _ (H1.out.put 0 _ rfl).st).mono ?_
        rintro e w2 ⟨rfl, h2, k2⟩
        have H2 := Lib.hid ((H1.out.put 0 _ rfl).word h2 k2)
        clear h2 k2
        unfold strV
        obtain ⟨y6, c6⟩ := H2.out.cellx (j := 6) (show 6 < 9 from by decide)
        have fz := H2.out.frz
        go_wp2_with fail
        clear c6 fz
        refine (waddress_any b B (nmS (wS p)) _ (H2.out.put 6 _ rfl).st ((H2.out.put 6 _ rfl).env HE.out) (short_nm (short_wS HS.out))).mono ?_
        rintro e w3 ⟨rfl, h3, k3⟩
        have H3 := Lib.hid ((H2.out.put 6 _ rfl).word h3 k3)
        clear h3 k3
        obtain ⟨y7, c7⟩ := H3.out.cellx (j := 7) (show 7 < 9 from by decide)
        have fz := H3.out.frz
        go_wp2_with fail
        clear c7 fz
        refine (waddress_any b B (adS (nmS (wS p))) _ (H3.out.put 7 _ rfl).st ((H3.out.put 7 _ rfl).env HE.out) (short_ad (short_nm (short_wS HS.out)))).mono ?_
        rintro e w4 ⟨rfl, h4, k4⟩
        have H4 := Lib.hid ((H3.out.put 7 _ rfl).word h4 k4)
        clear h4 k4
        obtain ⟨y8, c8⟩ := H4.out.cellx (j := 8) (show 8 < 9 from by decide)
        have fz := H4.out.frz
        go_wp2_with fail
        clear c8 fz
        go_meet
        rw [EC.out]
        exact (H4.out.put 8 _ rfl)
      | false =>
        rw [e1] at q1
        cases e2 : (wV p == [102, 111, 114, 119, 97, 114, 100]) with
        | true =>
          rw [e2] at q2
          cases c : chB [116, 99, 112] [117, 100, 112] (wS p) with
          | true =>
            have EC : Hid (natF p = (⟨3, adV (noS 0 65535 (adS (chS [116, 99, 112] [117, 100, 112] (wS p)))), adV (chS [116, 99, 112] [117, 100, 112] (wS p)), 6, noV 0 65535 (adS (noS 0 65535 (adS (chS [116, 99, 112] [117, 100, 112] (wS p))))), noV 0 65535 (adS (chS [116, 99, 112] [117, 100, 112] (wS p))), [], 0, 0⟩, noS 0 65535 (adS (noS 0 65535 (adS (chS [116, 99, 112] [117, 100, 112] (wS p))))))) := Lib.hid (by unfold natF; dsimp only; rw [e0, e1, e2, c]; rfl)
            have CC := Lib.hid c
            clear c
            obtain ⟨y0, c0⟩ := H1.out.cellx (j := 0) (show 0 < 9 from by decide)
            have fz := H1.out.frz
            obtain ⟨y3, c3⟩ := H1.out.cellx (j := 3) (show 3 < 9 from by decide)
            go_wp2_with fail
            clear c0 fz c3
            refine (wchoice_any b B (wS p) [116, 99, 112] [117, 100, 112] _ ((H1.out.put 0 _ rfl).put 3 _ rfl).st).mono ?_
            rintro e w2 ⟨rfl, h2, k2⟩
            have H2 := Lib.hid (((H1.out.put 0 _ rfl).put 3 _ rfl).word h2 k2)
            clear h2 k2
            rw [CC.out]
            obtain ⟨y3, c3⟩ := H2.out.cellx (j := 3) (show 3 < 9 from by decide)
            have fz := H2.out.frz
            go_wp2_with fail
            clear c3 fz
            refine (waddress_any b B (chS [116, 99, 112] [117, 100, 112] (wS p)) _ (H2.out.put 3 _ rfl).st ((H2.out.put 3 _ rfl).env HE.out) (short_ch _ _ (short_wS HS.out))).mono ?_
            rintro e w3 ⟨rfl, h3, k3⟩
            have H3 := Lib.hid ((H2.out.put 3 _ rfl).word h3 k3)
            clear h3 k3
            obtain ⟨y2, c2⟩ := H3.out.cellx (j := 2) (show 2 < 9 from by decide)
            have fz := H3.out.frz
            go_wp2_with fail
            clear c2 fz
            refine (wnumber_any b B (adS (chS [116, 99, 112] [117, 100, 112] (wS p))) 0 65535 _ (H3.out.put 2 _ rfl).st).mono ?_
            rintro e w4 ⟨rfl, h4, k4⟩
            have H4 := Lib.hid ((H3.out.put 2 _ rfl).word h4 k4)
            clear h4 k4
            obtain ⟨y5, c5⟩ := H4.out.cellx (j := 5) (show 5 < 9 from by decide)
            have fz := H4.out.frz
            go_wp2_with fail
            clear c5 fz
            refine (waddress_any b B (noS 0 65535 (adS (chS [116, 99, 112] [117, 100, 112] (wS p)))) _ (H4.out.put 5 _ rfl).st ((H4.out.put 5 _ rfl).env HE.out) (short_no _ _ (short_ad (short_ch _ _ (short_wS HS.out))))).mono ?_
            rintro e w5 ⟨rfl, h5, k5⟩
            have H5 := Lib.hid ((H4.out.put 5 _ rfl).word h5 k5)
            clear h5 k5
            obtain ⟨y1, c1⟩ := H5.out.cellx (j := 1) (show 1 < 9 from by decide)
            have fz := H5.out.frz
            go_wp2_with fail
            clear c1 fz
            refine (wnumber_any b B (adS (noS 0 65535 (adS (chS [116, 99, 112] [117, 100, 112] (wS p))))) 0 65535 _ (H5.out.put 1 _ rfl).st).mono ?_
            rintro e w6 ⟨rfl, h6, k6⟩
            have H6 := Lib.hid ((H5.out.put 1 _ rfl).word h6 k6)
            clear h6 k6
            obtain ⟨y4, c4⟩ := H6.out.cellx (j := 4) (show 4 < 9 from by decide)
            have fz := H6.out.frz
            go_wp2_with fail
            clear c4 fz
            go_meet
            rw [EC.out]
            exact (H6.out.put 4 _ rfl)
          | false =>
            have EC : Hid (natF p = (⟨3, adV (noS 0 65535 (adS (chS [116, 99, 112] [117, 100, 112] (wS p)))), adV (chS [116, 99, 112] [117, 100, 112] (wS p)), 17, noV 0 65535 (adS (noS 0 65535 (adS (chS [116, 99, 112] [117, 100, 112] (wS p))))), noV 0 65535 (adS (chS [116, 99, 112] [117, 100, 112] (wS p))), [], 0, 0⟩, noS 0 65535 (adS (noS 0 65535 (adS (chS [116, 99, 112] [117, 100, 112] (wS p))))))) := Lib.hid (by unfold natF; dsimp only; rw [e0, e1, e2, c]; rfl)
            have CC := Lib.hid c
            clear c
            obtain ⟨y0, c0⟩ := H1.out.cellx (j := 0) (show 0 < 9 from by decide)
            have fz := H1.out.frz
            obtain ⟨y3, c3⟩ := H1.out.cellx (j := 3) (show 3 < 9 from by decide)
            go_wp2_with fail
            clear c0 fz c3
            refine (wchoice_any b B (wS p) [116, 99, 112] [117, 100, 112] _ ((H1.out.put 0 _ rfl).put 3 _ rfl).st).mono ?_
            rintro e w2 ⟨rfl, h2, k2⟩
            have H2 := Lib.hid (((H1.out.put 0 _ rfl).put 3 _ rfl).word h2 k2)
            clear h2 k2
            rw [CC.out]
            go_wp2_with fail
            refine (waddress_any b B (chS [116, 99, 112] [117, 100, 112] (wS p)) _ H2.out.st (H2.out.env HE.out) (short_ch _ _ (short_wS HS.out))).mono ?_
            rintro e w3 ⟨rfl, h3, k3⟩
            have H3 := Lib.hid (H2.out.word h3 k3)
            clear h3 k3
            obtain ⟨y2, c2⟩ := H3.out.cellx (j := 2) (show 2 < 9 from by decide)
            have fz := H3.out.frz
            go_wp2_with fail
            clear c2 fz
            refine (wnumber_any b B (adS (chS [116, 99, 112] [117, 100, 112] (wS p))) 0 65535 _ (H3.out.put 2 _ rfl).st).mono ?_
            rintro e w4 ⟨rfl, h4, k4⟩
            have H4 := Lib.hid ((H3.out.put 2 _ rfl).word h4 k4)
            clear h4 k4
            obtain ⟨y5, c5⟩ := H4.out.cellx (j := 5) (show 5 < 9 from by decide)
            have fz := H4.out.frz
            go_wp2_with fail
            clear c5 fz
            refine (waddress_any b B (noS 0 65535 (adS (chS [116, 99, 112] [117, 100, 112] (wS p)))) _ (H4.out.put 5 _ rfl).st ((H4.out.put 5 _ rfl).env HE.out) (short_no _ _ (short_ad (short_ch _ _ (short_wS HS.out))))).mono ?_
            rintro e w5 ⟨rfl, h5, k5⟩
            have H5 := Lib.hid ((H4.out.put 5 _ rfl).word h5 k5)
            clear h5 k5
            obtain ⟨y1, c1⟩ := H5.out.cellx (j := 1) (show 1 < 9 from by decide)
            have fz := H5.out.frz
            go_wp2_with fail
            clear c1 fz
            refine (wnumber_any b B (adS (noS 0 65535 (adS (chS [116, 99, 112] [117, 100, 112] (wS p))))) 0 65535 _ (H5.out.put 1 _ rfl).st).mono ?_
            rintro e w6 ⟨rfl, h6, k6⟩
            have H6 := Lib.hid ((H5.out.put 1 _ rfl).word h6 k6)
            clear h6 k6
            obtain ⟨y4, c4⟩ := H6.out.cellx (j := 4) (show 4 < 9 from by decide)
            have fz := H6.out.frz
            go_wp2_with fail
            clear c4 fz
            go_meet
            rw [EC.out]
            exact (H6.out.put 4 _ rfl)
        | false =>
          rw [e2] at q2
          have EC : Hid (natF p = (⟨0, 0, 0, 0, 0, 0, [], 0, 0⟩, (wS p).fail)) := Lib.hid (by unfold natF; dsimp only; rw [e0, e1, e2]; rfl)
          have fb := H1.out.st.frz 2
          have cb := H1.out.st.bad1
          go_wp2_with fail
          clear fb cb
          go_meet
          rw [EC.out]
          exact H1.out.bad
  case rest =>
    have hpl : translationsF r.plain p = ([], none, { r.plain with nat := r.plain.nat ++ [(natF p).1] }, (natF p).2) := rfl
    generalize natF p = xp at hcut hpl
    obtain ⟨x, p'⟩ := xp
    dsimp only at hcut hpl
    have E := Lib.hid hpl
    have MX := Lib.hid hcut
    clear hcut hpl
    have hm : rowE 69 9 Tr.C r.natV r.nat ∈ btR r := List.mem_of_getElem? (i := 1) rfl
    have hbd : r.nat.length ≤ 1000000000 := (by have h := HR.out.nat.1; replace h : r.nat.length ≤ k := h; have := HK.out; omega)
    have MD := Lib.hid MX.out.drew
    have ho : OwnE wc.drew B 69 9 Tr.C r.natV r.nat := rowE_own.1 (MD.out.bw.own.1 _ hm)
    obtain ⟨A0, c0, hnv, -⟩ := ho.slv
    obtain ⟨A5, m5, c5, wz, hr, ho5, hg5, hn5⟩ := ho.push (P := Tryz.prog) (Nat.le_trans MD.out.bw.bB MD.out.bw.size) kTr.sl kTr.info (by decide) (fun _ => rfl) x (Tr.one x) (by omega) (by decide) 26
    have hne : r.natV.ownBlock ≠ some g := fun e => MX.out.bw.gr (List.mem_filterMap.2 ⟨_, hm, e⟩)
    obtain ⟨c6, f6⟩ := own_kept hg5 hne (MD.out.bw.toBR.cell 6) (MD.out.bw.toBR.frz 6)
    have cr : wc.cell? ⟨g, 6, none⟩ = some (.slice A0 r.nat.length c0) := by rw [← hnv]; exact MX.out.bw.toBR.cell 6
    have cra : ∀ o, (wc.alloc o).cell? ⟨g, 6, none⟩ = some (.slice A0 r.nat.length c0) := fun o => (World.cell?_alloc_lt wc o ⟨g, 6, none⟩ MX.out.bw.toBR.lt).trans cr
    have cx0 : wc.cell? ⟨w.heap.size, 0, none⟩ = .some (.int .i64 x.kind) := MX.out.cell 0
    have cx1 : wc.cell? ⟨w.heap.size, 1, none⟩ = .some (.int .u32 (x.ins : Int)) := MX.out.cell 1
    have cx2 : wc.cell? ⟨w.heap.size, 2, none⟩ = .some (.int .u32 (x.outs : Int)) := MX.out.cell 2
    have cx3 : wc.cell? ⟨w.heap.size, 3, none⟩ = .some (.int .i64 x.proto) := MX.out.cell 3
    have cx4 : wc.cell? ⟨w.heap.size, 4, none⟩ = .some (.int .i64 x.iport) := MX.out.cell 4
    have cx5 : wc.cell? ⟨w.heap.size, 5, none⟩ = .some (.int .i64 x.oport) := MX.out.cell 5
    have cx6 : wc.cell? ⟨w.heap.size, 6, none⟩ = .some (strV x.list) := MX.out.cell 6
    have cx7 : wc.cell? ⟨w.heap.size, 7, none⟩ = .some (.int .u32 (x.lo : Int)) := MX.out.cell 7
    have cx8 : wc.cell? ⟨w.heap.size, 8, none⟩ = .some (.int .u32 (x.hi : Int)) := MX.out.cell 8
    have HB5 : Hid (BW g B w0 { r with natV := .slice A5 m5 c5, nat := r.nat ++ [x] } K (147, kb) b p' (wz.setCell ⟨g, 6, none⟩ (.slice A5 m5 c5))) := Lib.hid ((MD.out.bw.grow (r' := { r with natV := .slice A5 m5 c5, nat := r.nat ++ [x] }) (v := r.natV) (v' := .slice A5 m5 c5) (l := r.nat) (l' := r.nat ++ [x]) (E := 69) (n := 9) (C := Tr.C) (ex := []) (permAt (t := (btR r).take 1) (z := (btR r).drop 2) rfl) (permAt (t := (btR r).take 1) (z := (btR r).drop 2) rfl) (fun o ho => by cases ho) ho5 hg5 hn5 rfl).less (fun _ hk => List.mem_cons_of_mem _ hk))
    rw [hnv] at hr
    have HR5 := Lib.hid hr
    clear hr ho5 hn5 hg5 ho hm hne
    go_wp2_with fail
    go_region_law (refine step_appendR rfl _ _ 26 26 rfl (.slice A0 r.nat.length c0) (.slice (some ⟨wc.heap.size, 0, none⟩) 1 1) (by simp [Act.eval]) (by simp [Act.eval]) HR5.out ?_)
    all_goals
      go_wp2_with fail
      go_ret2
      exact ⟨[], none, { r with natV := .slice A5 m5 c5, nat := r.nat ++ [x] }, p', [], .nilFunc, E.out, rfl, HB5.out, fun _ => ⟨rfl, rfl, rfl, rfl, rfl, rfl⟩, fun _ q => q, rfl, fun _ h => by cases h⟩
end Go.Proofs.YtmddfkpkddemnaaGreatDoor
namespace Go.Proofs.YtmddfkpkddemnaaGreatDoor
open Go.RowKit
set_option maxRecDepth 8000 in
set_option maxHeartbeats 8000000 in
theorem prefixRules_form : FormC .prefixRules := by
  intro g B b k w0 w r K kb p fv h hf he hs hr hk
  obtain ⟨gg, cap, l0, x, q, e1, e2, rfl, e4⟩ := hf
  refine ⟨123, #[], #[.pointer (some ⟨q, 0, none⟩)], rfl, enters_of Tryz.func123 (by kernel_rfl) rfl, ?_⟩
  show Calls Tryz.prog 123 #[.pointer (some ⟨b, 0, none⟩), .pointer (some ⟨q, 0, none⟩)] w _
  have HL := Lib.hid e1
  have HV := Lib.hid e2
  have HQ := Lib.hid e4
  clear e1 e2 e4
  have H := Lib.hid h
  have HE := Lib.hid he
  have HS := Lib.hid hs
  have HR := Lib.hid hr
  have HK := Lib.hid hk
  clear h he hs hr hk
  have H0 := H
  go_enter Tryz.func123, Tryz.ntmps123
  go_wp2_with fail
  refine (wchoice_any b B p [112, 101, 114, 109, 105, 116] [100, 101, 110, 121] _ H0.out.st).mono ?_
  rintro e w1 ⟨rfl, h1, k1⟩
  have H1 := Lib.hid (H0.out.word h1 k1)
  clear h1 k1
  go_wp2_with fail
  refine (wprefix_any b B (chS [112, 101, 114, 109, 105, 116] [100, 101, 110, 121] p) _ H1.out.st (H1.out.toBR.env HE.out) (short_ch _ _ HS.out)).mono ?_
  rintro e w2 ⟨rfl, h2, k2⟩
  have H2 := Lib.hid (H1.out.word h2 k2)
  clear h2 k2
  have one : (PRule.C ⟨chB [112, 101, 114, 109, 105, 116] [100, 101, 110, 121] p, (pxV (chS [112, 101, 114, 109, 105, 116] [100, 101, 110, 121] p)).1, (pxV (chS [112, 101, 114, 109, 105, 116] [100, 101, 110, 121] p)).2, 0, 0⟩).all (·.oneCell') = true := PRule.one _
  go_upto_region 2 with (first | (refine wpList_storeRow rfl 105 _ _ rfl rfl (ds := PRule.C ⟨chB [112, 101, 114, 109, 105, 116] [100, 101, 110, 121] p, (pxV (chS [112, 101, 114, 109, 105, 116] [100, 101, 110, 121] p)).1, (pxV (chS [112, 101, 114, 109, 105, 116] [100, 101, 110, 121] p)).2, 0, 0⟩) rfl (HasC.new _ _ _) rfl Tryz.sizePRule one ?_; intro w3 hz1 hz2))
  have X3 := Lib.hid (BX.newc H2.out hz1 (new_below hz2))
  clear hz1 hz2
  have n2 : w3.cell? ⟨w2.heap.size, 2, none⟩ = .some (.int .i64 (pxV (chS [112, 101, 114, 109, 105, 116] [100, 101, 110, 121] p)).2) := X3.out.cell 2
  obtain ⟨y3, c3⟩ := X3.out.cellx (j := 3) (show 3 < 5 from by decide)
  have fz := X3.out.frz
  obtain ⟨y4, c4⟩ := X3.out.cellx (j := 4) (show 4 < 5 from by decide)
  go_upto_block 0 with (fail)
  clear n2 c3 c4 fz
  go_cut [] (fun wx => BX g B w0 r K (147, kb) b (bounds (pxV (chS [112, 101, 114, 109, 105, 116] [100, 101, 110, 121] p)).2 (pxS (chS [112, 101, 114, 109, 105, 116] [100, 101, 110, 121] p))).2.2 w2.heap.size 105 (PRule.C ⟨chB [112, 101, 114, 109, 105, 116] [100, 101, 110, 121] p, (pxV (chS [112, 101, 114, 109, 105, 116] [100, 101, 110, 121] p)).1, (pxV (chS [112, 101, 114, 109, 105, 116] [100, 101, 110, 121] p)).2, (bounds (pxV (chS [112, 101, 114, 109, 105, 116] [100, 101, 110, 121] p)).2 (pxS (chS [112, 101, 114, 109, 105, 116] [100, 101, 110, 121] p))).1, (bounds (pxV (chS [112, 101, 114, 109, 105, 116] [100, 101, 110, 121] p)).2 (pxS (chS [112, 101, 114, 109, 105, 116] [100, 101, 110, 121] p))).2.1⟩) wx)
  case first =>
    have H3 : Hid (BX g B w0 r K (147, kb) b (pxS (chS [112, 101, 114, 109, 105, 116] [100, 101, 110, 121] p)) w2.heap.size 105 (PRule.C ⟨chB [112, 101, 114, 109, 105, 116] [100, 101, 110, 121] p, (pxV (chS [112, 101, 114, 109, 105, 116] [100, 101, 110, 121] p)).1, (pxV (chS [112, 101, 114, 109, 105, 116] [100, 101, 110, 121] p)).2, (pxV (chS [112, 101, 114, 109, 105, 116] [100, 101, 110, 121] p)).2, (pxV (chS [112, 101, 114, 109, 105, 116] [100, 101, 110, 121] p)).2⟩) _) := Lib.hid ((X3.out.put 3 _ rfl).put 4 _ rfl)
    clear X3
    cases c0 : isW [101, 120, 97, 99, 116] (pxS (chS [112, 101, 114, 109, 105, 116] [100, 101, 110, 121] p)) with
    | true =>
      have C0 := Lib.hid c0
      clear c0
      have EC : Hid (bounds (pxV (chS [112, 101, 114, 109, 105, 116] [100, 101, 110, 121] p)).2 (pxS (chS [112, 101, 114, 109, 105, 116] [100, 101, 110, 121] p)) = ((pxV (chS [112, 101, 114, 109, 105, 116] [100, 101, 110, 121] p)).2, (pxV (chS [112, 101, 114, 109, 105, 116] [100, 101, 110, 121] p)).2, (optS [101, 120, 97, 99, 116] (pxS (chS [112, 101, 114, 109, 105, 116] [100, 101, 110, 121] p))))) := Lib.hid (by unfold bounds; rw [C0.out]; rfl)
      go_wp2_with fail
      refine (woption_any b B (pxS (chS [112, 101, 114, 109, 105, 116] [100, 101, 110, 121] p)) [101, 120, 97, 99, 116] _ H3.out.st).mono ?_
      rintro e w4 ⟨rfl, h4, k4⟩
      have H4 := Lib.hid (H3.out.word h4 k4)
      clear h4 k4
      rw [C0.out]
      go_wp2_with fail
      go_meet
      rw [EC.out]
      exact H4.out
    | false =>
      have C0 := Lib.hid c0
      clear c0
      go_wp2_with fail
      refine (woption_any b B (pxS (chS [112, 101, 114, 109, 105, 116] [100, 101, 110, 121] p)) [101, 120, 97, 99, 116] _ H3.out.st).mono ?_
      rintro e w4 ⟨rfl, h4, k4⟩
      rw [optS_no C0.out] at h4
      have H4 := Lib.hid (H3.out.word h4 k4)
      clear h4 k4
      rw [C0.out]
      cases c1 : isW [111, 114, 108, 111, 110, 103, 101, 114] (pxS (chS [112, 101, 114, 109, 105, 116] [100, 101, 110, 121] p)) with
      | true =>
        have C1 := Lib.hid c1
        clear c1
        have EC : Hid (bounds (pxV (chS [112, 101, 114, 109, 105, 116] [100, 101, 110, 121] p)).2 (pxS (chS [112, 101, 114, 109, 105, 116] [100, 101, 110, 121] p)) = ((pxV (chS [112, 101, 114, 109, 105, 116] [100, 101, 110, 121] p)).2, 32, (optS [111, 114, 108, 111, 110, 103, 101, 114] (pxS (chS [112, 101, 114, 109, 105, 116] [100, 101, 110, 121] p))))) := Lib.hid (by unfold bounds; rw [C0.out, C1.out]; rfl)
        go_wp2_with fail
        refine (woption_any b B (pxS (chS [112, 101, 114, 109, 105, 116] [100, 101, 110, 121] p)) [111, 114, 108, 111, 110, 103, 101, 114] _ H4.out.st).mono ?_
        rintro e w5 ⟨rfl, h5, k5⟩
        have H5 := Lib.hid (H4.out.word h5 k5)
        clear h5 k5
        rw [C1.out]
        obtain ⟨y4, c4⟩ := H5.out.cellx (j := 4) (show 4 < 5 from by decide)
        have fz := H5.out.frz
        go_wp2_with fail
        clear c4 fz
        go_meet
        rw [EC.out]
        exact (H5.out.put 4 _ rfl)
      | false =>
        have C1 := Lib.hid c1
        clear c1
        go_wp2_with fail
        refine (woption_any b B (pxS (chS [112, 101, 114, 109, 105, 116] [100, 101, 110, 121] p)) [111, 114, 108, 111, 110, 103, 101, 114] _ H4.out.st).mono ?_
        rintro e w5 ⟨rfl, h5, k5⟩
        rw [optS_no C1.out] at h5
        have H5 := Lib.hid (H4.out.word h5 k5)
        clear h5 k5
        rw [C1.out]
        cases c2 : isW [117, 112, 116, 111] (pxS (chS [112, 101, 114, 109, 105, 116] [100, 101, 110, 121] p)) with
        | true =>
          have C2 := Lib.hid c2
          clear c2
          have EC : Hid (bounds (pxV (chS [112, 101, 114, 109, 105, 116] [100, 101, 110, 121] p)).2 (pxS (chS [112, 101, 114, 109, 105, 116] [100, 101, 110, 121] p)) = ((pxV (chS [112, 101, 114, 109, 105, 116] [100, 101, 110, 121] p)).2, noV 0 32 (optS [117, 112, 116, 111] (pxS (chS [112, 101, 114, 109, 105, 116] [100, 101, 110, 121] p))), noS 0 32 (optS [117, 112, 116, 111] (pxS (chS [112, 101, 114, 109, 105, 116] [100, 101, 110, 121] p))))) := Lib.hid (by unfold bounds; rw [C0.out, C1.out, C2.out]; rfl)
          go_wp2_with fail
          refine (woption_any b B (pxS (chS [112, 101, 114, 109, 105, 116] [100, 101, 110, 121] p)) [117, 112, 116, 111] _ H5.out.st).mono ?_
          rintro e w6 ⟨rfl, h6, k6⟩
          have H6 := Lib.hid (H5.out.word h6 k6)
          clear h6 k6
          rw [C2.out]
          go_wp2_with fail
          refine (wnumber_any b B (optS [117, 112, 116, 111] (pxS (chS [112, 101, 114, 109, 105, 116] [100, 101, 110, 121] p))) 0 32 _ H6.out.st).mono ?_
          rintro e w7 ⟨rfl, h7, k7⟩
          have H7 := Lib.hid (H6.out.word h7 k7)
          clear h7 k7
          obtain ⟨y4, c4⟩ := H7.out.cellx (j := 4) (show 4 < 5 from by decide)
          have fz := H7.out.frz
          go_wp2_with fail
          clear c4 fz
          go_meet
          rw [EC.out]
          exact (H7.out.put 4 _ rfl)
        | false =>
          have C2 := Lib.hid c2
          clear c2
          go_wp2_with fail
          refine (woption_any b B (pxS (chS [112, 101, 114, 109, 105, 116] [100, 101, 110, 121] p)) [117, 112, 116, 111] _ H5.out.st).mono ?_
          rintro e w6 ⟨rfl, h6, k6⟩
          rw [optS_no C2.out] at h6
          have H6 := Lib.hid (H5.out.word h6 k6)
          clear h6 k6
          rw [C2.out]
          cases c3 : isW [114, 97, 110, 103, 101] (pxS (chS [112, 101, 114, 109, 105, 116] [100, 101, 110, 121] p)) with
          | true =>
            have C3 := Lib.hid c3
            clear c3
            have EC : Hid (bounds (pxV (chS [112, 101, 114, 109, 105, 116] [100, 101, 110, 121] p)).2 (pxS (chS [112, 101, 114, 109, 105, 116] [100, 101, 110, 121] p)) = (noV 0 32 (optS [114, 97, 110, 103, 101] (pxS (chS [112, 101, 114, 109, 105, 116] [100, 101, 110, 121] p))), noV 0 32 (noS 0 32 (optS [114, 97, 110, 103, 101] (pxS (chS [112, 101, 114, 109, 105, 116] [100, 101, 110, 121] p)))), noS 0 32 (noS 0 32 (optS [114, 97, 110, 103, 101] (pxS (chS [112, 101, 114, 109, 105, 116] [100, 101, 110, 121] p)))))) := Lib.hid (by unfold bounds; rw [C0.out, C1.out, C2.out, C3.out]; rfl)
            go_wp2_with fail
            refine (woption_any b B (pxS (chS [112, 101, 114, 109, 105, 116] [100, 101, 110, 121] p)) [114, 97, 110, 103, 101] _ H6.out.st).mono ?_
            rintro e w7 ⟨rfl, h7, k7⟩
            have H7 := Lib.hid (H6.out.word h7 k7)
            clear h7 k7
            rw [C3.out]
            go_wp2_with fail
            refine (wnumber_any b B (optS [114, 97, 110, 103, 101] (pxS (chS [112, 101, 114, 109, 105, 116] [100, 101, 110, 121] p))) 0 32 _ H7.out.st).mono ?_
            rintro e w8 ⟨rfl, h8, k8⟩
            have H8 := Lib.hid (H7.out.word h8 k8)
            clear h8 k8
            obtain ⟨y3, c3⟩ := H8.out.cellx (j := 3) (show 3 < 5 from by decide)
            have fz := H8.out.frz
            go_wp2_with fail
            clear c3 fz
            refine (wnumber_any b B (noS 0 32 (optS [114, 97, 110, 103, 101] (pxS (chS [112, 101, 114, 109, 105, 116] [100, 101, 110, 121] p)))) 0 32 _ (H8.out.put 3 _ rfl).st).mono ?_
            rintro e w9 ⟨rfl, h9, k9⟩
            have H9 := Lib.hid ((H8.out.put 3 _ rfl).word h9 k9)
            clear h9 k9
            obtain ⟨y4, c4⟩ := H9.out.cellx (j := 4) (show 4 < 5 from by decide)
            have fz := H9.out.frz
            go_wp2_with fail
            clear c4 fz
            go_meet
            rw [EC.out]
            exact (H9.out.put 4 _ rfl)
          | false =>
            have C3 := Lib.hid c3
            clear c3
            go_wp2_with fail
            refine (woption_any b B (pxS (chS [112, 101, 114, 109, 105, 116] [100, 101, 110, 121] p)) [114, 97, 110, 103, 101] _ H6.out.st).mono ?_
            rintro e w7 ⟨rfl, h7, k7⟩
            rw [optS_no C3.out] at h7
            have H7 := Lib.hid (H6.out.word h7 k7)
            clear h7 k7
            rw [C3.out]
            have EC : Hid (bounds (pxV (chS [112, 101, 114, 109, 105, 116] [100, 101, 110, 121] p)).2 (pxS (chS [112, 101, 114, 109, 105, 116] [100, 101, 110, 121] p)) = ((pxV (chS [112, 101, 114, 109, 105, 116] [100, 101, 110, 121] p)).2, (pxV (chS [112, 101, 114, 109, 105, 116] [100, 101, 110, 121] p)).2, (pxS (chS [112, 101, 114, 109, 105, 116] [100, 101, 110, 121] p)))) := Lib.hid (by unfold bounds; rw [C0.out, C1.out, C2.out, C3.out]; rfl)
            go_wp2_with fail
            go_meet
            rw [EC.out]
            exact H7.out
  case rest =>
    have hpl : prefixRulesF r.plain p = ([], none, plF ⟨chB [112, 101, 114, 109, 105, 116] [100, 101, 110, 121] p, (pxV (chS [112, 101, 114, 109, 105, 116] [100, 101, 110, 121] p)).1, (pxV (chS [112, 101, 114, 109, 105, 116] [100, 101, 110, 121] p)).2, (bounds (pxV (chS [112, 101, 114, 109, 105, 116] [100, 101, 110, 121] p)).2 (pxS (chS [112, 101, 114, 109, 105, 116] [100, 101, 110, 121] p))).1, (bounds (pxV (chS [112, 101, 114, 109, 105, 116] [100, 101, 110, 121] p)).2 (pxS (chS [112, 101, 114, 109, 105, 116] [100, 101, 110, 121] p))).2.1⟩ r.plain, (bounds (pxV (chS [112, 101, 114, 109, 105, 116] [100, 101, 110, 121] p)).2 (pxS (chS [112, 101, 114, 109, 105, 116] [100, 101, 110, 121] p))).2.2) := rfl
    generalize bounds (pxV (chS [112, 101, 114, 109, 105, 116] [100, 101, 110, 121] p)).2 (pxS (chS [112, 101, 114, 109, 105, 116] [100, 101, 110, 121] p)) = bn at hcut hpl
    obtain ⟨mn, mx, p'⟩ := bn
    dsimp only at hcut hpl
    generalize (⟨chB [112, 101, 114, 109, 105, 116] [100, 101, 110, 121] p, (pxV (chS [112, 101, 114, 109, 105, 116] [100, 101, 110, 121] p)).1, (pxV (chS [112, 101, 114, 109, 105, 116] [100, 101, 110, 121] p)).2, mn, mx⟩ : PRule) = y at hcut hpl
    have MX := Lib.hid hcut
    have hbd : x.rules.length ≤ 1000000000 := (by have h := (rulesL HR.out (x := x) (by rw [HL.out]; simp)).1; have := HK.out; omega)
    clear hcut
    have MD := Lib.hid MX.out.drew
    have hp := permTwo (btR_l HL.out)
    obtain ⟨ho, hne, hgB, cur, hpa⟩ := MD.out.bw.two (E := 105) (n := 5) (C := PRule.C) (v := x.v) (l := x.rules) hp HV.out (fun _ => rfl)
    obtain ⟨A0, c0, hnv, -⟩ := ho.slv
    obtain ⟨A5, m5, c5, w5, hr, ho5, hg5, hn5⟩ := ho.push (P := Tryz.prog) (Nat.le_trans MD.out.bw.bB MD.out.bw.size) kPRule.sl kPRule.info (by decide) (fun _ => rfl) y (PRule.one y) (by omega) (by decide) 101
    obtain ⟨c6, f6⟩ := own_kept hg5 hne (hpa.cell (j := 1) (show 1 < 2 from by decide)) (hpa.frz _)
    have cr : wc.cell? ⟨gg, l0.length * 2 + 1, none⟩ = some (.slice A0 x.rules.length c0) := by rw [← hnv]; exact hpa.cell (j := 1) (show 1 < 2 from by decide)
    have cra : ∀ o, (wc.alloc o).cell? ⟨gg, l0.length * 2 + 1, none⟩ = some (.slice A0 x.rules.length c0) := fun o => (World.cell?_alloc_lt wc o ⟨gg, l0.length * 2 + 1, none⟩ hpa.lt).trans cr
    have cx0 : wc.cell? ⟨w2.heap.size, 0, none⟩ = .some (.bool y.permit) := MX.out.cell 0
    have cx1 : wc.cell? ⟨w2.heap.size, 1, none⟩ = .some (.int .u32 (y.pa : Int)) := MX.out.cell 1
    have cx2 : wc.cell? ⟨w2.heap.size, 2, none⟩ = .some (.int .i64 y.pl) := MX.out.cell 2
    have cx3 : wc.cell? ⟨w2.heap.size, 3, none⟩ = .some (.int .i64 y.min) := MX.out.cell 3
    have cx4 : wc.cell? ⟨w2.heap.size, 4, none⟩ = .some (.int .i64 y.max) := MX.out.cell 4
    have hkq := MX.out.bw.keep _ (List.mem_cons_of_mem _ HQ.out)
    have hrow : rP x ∈ btR r := by rw [btR_l HL.out]; simp
    have ck : wc.cell? ⟨q, 0, none⟩ = some (.pointer (some ⟨gg, l0.length * 2, none⟩)) := MX.out.bw.kc (List.mem_cons_of_mem _ HQ.out)
    have cka : ∀ o, (wc.alloc o).cell? ⟨q, 0, none⟩ = some (.pointer (some ⟨gg, l0.length * 2, none⟩)) := fun o => (World.cell?_alloc_lt wc o ⟨q, 0, none⟩ (blk_lt hkq.1)).trans ck
    have ck5 : w5.cell? ⟨q, 0, none⟩ = some (.pointer (some ⟨gg, l0.length * 2, none⟩)) := (own_kept hg5 (fun e => hkq.2.2 (List.mem_filterMap.2 ⟨rP x, hrow, e⟩)) (MD.out.bw.kc (List.mem_cons_of_mem _ HQ.out)) (Lib.frozen_of_heap hkq.1 0)).1
    have E : Hid (prefixRulesF r.plain p = ([], none, ({ r with lists := l0 ++ [⟨x.name, .slice A5 m5 c5, x.rules ++ [y]⟩] } : Rt).plain, p')) := Lib.hid (by rw [hpl]; unfold plF; simp only [Rt.plain, HL.out, List.map_append, List.map_cons, List.map_nil, lastF_snoc])
    have HB5 : Hid (BW g B w0 { r with lists := l0 ++ [⟨x.name, .slice A5 m5 c5, x.rules ++ [y]⟩] } K (147, kb) b p' (w5.setCell ⟨gg, l0.length * 2 + 1, none⟩ (.slice A5 m5 c5))) := Lib.hid ((MD.out.bw.inner (r' := { r with lists := l0 ++ [⟨x.name, .slice A5 m5 c5, x.rules ++ [y]⟩] }) (m' := ⟨x.name, .slice A5 m5 c5, x.rules ++ [y]⟩) (v' := .slice A5 m5 c5) (l' := x.rules ++ [y]) (E := 105) (n := 5) (C := PRule.C) (v := x.v) (l := x.rules) hp (permTwo (t := (btR r).take 11) (btR_l (r := { r with lists := l0 ++ [⟨x.name, .slice A5 m5 c5, x.rules ++ [y]⟩] }) (m0 := l0) (m := ⟨x.name, .slice A5 m5 c5, x.rules ++ [y]⟩) rfl)) HV.out (fun _ => rfl) rfl rfl ho5 hg5 hn5).less (fun _ hk => List.mem_cons_of_mem _ hk))
    rw [hnv] at hr
    have HR5 := Lib.hid hr
    clear hr ho5 hn5 hg5 ho hne hkq hrow hp hpa hpl hgB
    go_wp2_with fail
    go_region_law (refine step_appendR rfl _ _ 101 101 rfl (.slice A0 x.rules.length c0) (.slice (some ⟨wc.heap.size, 0, none⟩) 1 1) (by simp [Act.eval]) (by simp [Act.eval]) HR5.out ?_)
    all_goals
      go_wp2_with fail
      go_ret2
      exact ⟨[], none, _, p', [], .nilFunc, E.out, rfl, HB5.out, fun _ => ⟨rfl, by rw [HL.out]; simp, rfl, rfl, rfl, rfl⟩, fun _ h => ElV.stay h rfl (by rw [HL.out]; simp) (fun _ h => h), rfl, fun _ h => by cases h⟩
end Go.Proofs.YtmddfkpkddemnaaGreatDoor
