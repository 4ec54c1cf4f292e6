/- The statement Rows.BetaCanonicalCardSaid: the tied card of the law: over the pruned copy, with the listed variables as the program's text lays them, for every input the law's call returns true and its arguments read as before. No condition beside the card's own. -/
import Derived.Test.YtdlgnhefpoalnaaGreatDoorJb
import Derived.Test.YtdlgnhefpoalnaaGreatDoorJc
import Derived.Test.YtdlgnhefpoalnaaGreatDoorJs
import Derived.Test.YtdlgnhefpoalnaaGreatDoorJaw
namespace Go.Proofs.YtdlgnhefpoalnaaGreatDoor.betaCanonical
open Go.ChangeShapes Go.WideShapes Go.ChangeAt Go.RowKit
open Go.ChangeMaps (open_string shut_string)
set_option linter.unusedVariables false
theorem own:ownKnob Tryz.prog.godebug = none:=by kernel_rfl
set_option maxRecDepth 100000 in
theorem lifted (os:Os) (started:os.Started) (H:Type) (enc:TypeId × Value→H) :
  ReturnsInHanded {} Tryz.checked os 6 .any (fun w args => (Rows.betaCanonicalSpec.pre enc Tryz.prog Tryz.f6 [] false w args∧laidMetH Tryz.prog Rows.betaCanonicalRow.laid w)∧sizedMet enc Tryz.prog Tryz.f6 (OpenSpec.ofChange Rows.betaCanonicalSpec) false w args)
   (Rows.betaCanonicalSpec.post enc Tryz.prog Tryz.f6 false true false false):=by
 refine lift_laid (C:=Tryz.checked) (X:=fun w _ => laidMetH Tryz.prog Rows.betaCanonicalRow.laid w) (fun _ _ _ hh h => h.of_heap hh) own started (by kernel_rfl) Tryz.func6
  (ChangeSpec.witness_shaped (enc:=enc) (C:=Tryz.checked) (os:=os) (X:=fun w _ => laidMetH Tryz.prog Rows.betaCanonicalRow.laid w) false (World.laidAll Tryz.prog os Rows.betaCanonicalRow.laid) #[.string ByteArray.empty] 8 (World.laidAll_os _ _ _)
   (World.shaped_of_ZipB (by kernel_rfl) (by kernel_rfl)) (by kernel_rfl) (by kernel_rfl) (by kernel_rfl)
   (by rw [MakeChecks.laidMetH_plain _ _ _ (by kernel_rfl)]; exact laidMet_laidAll _ (by kernel_rfl) (by kernel_rfl))) ?_
 intro W base args ds gs before hval0 hW hL hsh
 have hval:∀ (j:Nat) t v,Tryz.f6.params[j]? = some t→args[j]? = some v→Value.okWide Tryz.prog W .any base t v:=hval0
 have hW' := hW
 obtain ⟨p,q,hA0,hV,rfl,hfz,hnd⟩:=hW
 have hA:DataW.TrodAll enc Tryz.prog W 0 (fun _ => true) true Tryz.f6.params.toList args.toList ds p:=hA0
 rw [Tryz.params6] at hA hval
 obtain ⟨v0,vs0,d0,ds0,p0,q0,hargs,rfl,rfl,h0,r0⟩:=trodAll_cons hA
 obtain ⟨rfl,rfl,rfl⟩:=trodAll_nil r0
 obtain rfl:args = #[v0]:=by cases args; simp_all
 obtain ⟨rfl,rfl⟩:=trodVars_none hV
 have k0:=h0
 have lt0:∀ x ∈ p0,x.block < W.heap.size:=by obtain ⟨m,hm⟩:=k0; exact DataW.trod_lt m _ _ _ hm
 obtain ⟨a0,rfl,rfl,_,w0⟩:=open_string Tryz.underlying9 (hval 0 9 v0 rfl rfl) h0
 clear hA0 hval0
 have hL2:=hL
 rw [MakeChecks.laidMetH_plain _ _ _ (by kernel_rfl)] at hL2
 have he:EnvA W.heap.size W:=envT_of hL2 hsh (by simp only [Rows.betaCanonicalRow,List.mem_cons,Prod.mk.injEq,true_or,or_true])
 refine (zLj a0 W he ).mono fun e W' ⟨he,bel⟩ => ?_
 subst he
 exact ⟨_,rfl,_,_,_,[],_,[],hW', trodAll_mk1 (shut_bool Tryz.underlying4 _),(trodAll_cons_mk (Below.trod laidOut (by kernel_rfl) (of_decide_eq_true (by kernel_rfl)) k0 bel lt0) trodAll_mk0),rfl,bel.frame _,fun h => by cases h⟩
theorem over:Rows.betaCanonicalRow.holds Tryz.pinned (OpenSpec.ofChange Rows.betaCanonicalSpec) :=
 OpenClaim.holds_of_wide 6 Tryz.f6 rfl rfl rfl rfl rfl rfl rfl ⟨rfl,rfl,rfl,rfl,rfl⟩ rfl rfl rfl rfl rfl cName Tryz.func6 closed
  cInst cWrap
  (fun os started H enc _ => lifted os started H enc)
theorem proved:Rows.BetaCanonicalCardSaid :=
 Claim7.holds_tied_plain_at .later [] [.data,.data,.data,.data,.pinned] true (true, "2cdd519f57e647b5003858c1760181b5014727e80b5dccbd369870e40bd14aab") false over (fun _ h => by cases h) cWf (fun _ h => by cases h) betaCanonical_row_tie rfl ⟨rfl,rfl⟩ cMain rfl
  (fun f fn hf hfn => by
   obtain rfl:f = 6:=Option.some.inj (cFn.symm.trans hf) |>.symm
   obtain rfl:fn = Tryz.f6:=(Option.some.inj (Tryz.func6.symm.trans hfn)).symm
   exact ⟨cLooks,fun j t ht => by
    rw [Tryz.params6] at ht
    have hm:t ∈ ([9]:List TypeId):=by simpa using Array.mem_of_getElem? ht
    have hall:=cStand
    exact (show Tryz.prog.wantsStandIn t = false by simpa using List.all_eq_true.1 hall t hm)⟩)
  cGoes
end Go.Proofs.YtdlgnhefpoalnaaGreatDoor.betaCanonical
