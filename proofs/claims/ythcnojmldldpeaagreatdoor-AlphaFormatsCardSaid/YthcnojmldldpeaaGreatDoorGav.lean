/- The statement Rows.AlphaFormatsCardSaid: the tied card of the law: over the pruned copy, with the listed variables as the program's text lays them, for every input the law's call returns true and its arguments read as before. No condition beside the card's own. -/
import Derived.Test.YthcnojmldldpeaaGreatDoorGb
import Derived.Test.YthcnojmldldpeaaGreatDoorGc
import Derived.Test.YthcnojmldldpeaaGreatDoorGr
import Derived.Test.YthcnojmldldpeaaGreatDoorGat
import Derived.Test.YthcnojmldldpeaaGreatDoorGau
namespace Go.Proofs.YthcnojmldldpeaaGreatDoor.alphaFormats
open Go.ChangeShapes Go.WideShapes Go.ChangeAt Go.RowKit
open Go.ChangeMaps (open_string shut_string)
set_option linter.unusedVariables false
theorem own:ownKnob Tryz.prog.godebug=none:=by kernel_rfl
set_option maxRecDepth 100000 in
theorem lifted(os:Os)(started:os.Started)(H:Type)(enc:TypeId × Value→H) :
  ReturnsInHanded {} Tryz.checked os 3 .any (fun w args=>(Rows.alphaFormatsSpec.pre enc Tryz.prog Tryz.f3 [] false w args∧laidMetH Tryz.prog Rows.alphaFormatsRow.laid w)∧sizedMet enc Tryz.prog Tryz.f3 (OpenSpec.ofChange Rows.alphaFormatsSpec) false w args)
   (Rows.alphaFormatsSpec.post enc Tryz.prog Tryz.f3 false true false false):=by
 refine lift_laid (C:=Tryz.checked) (X:=fun w _=>laidMetH Tryz.prog Rows.alphaFormatsRow.laid w) (fun _ _ _ hh h=>h.of_heap hh) own started (by kernel_rfl) Tryz.func3
  (ChangeSpec.witness_shaped (enc:=enc) (C:=Tryz.checked) (os:=os) (X:=fun w _=>laidMetH Tryz.prog Rows.alphaFormatsRow.laid w) false (World.laidAll Tryz.prog os Rows.alphaFormatsRow.laid) #[.agg rtN.C] 8 (World.laidAll_os _ _ _)
   (World.shaped_of_ZipB (by kernel_rfl) (by kernel_rfl)) (by kernel_rfl) (by kernel_rfl) (by kernel_rfl)
   (by rw[MakeChecks.laidMetH_plain _ _ _ (by kernel_rfl)];exact laidMet_laidAll _ (by kernel_rfl) (by kernel_rfl))) ?_
 intro W base args ds gs before hval0 hW hL hsh;have hval:∀(j:Nat) t v,Tryz.f3.params[j]? = some t→args[j]? = some v→Value.okWide Tryz.prog W .any base t v:=hval0;have hW' := hW;obtain⟨p,q,hA0,hV,rfl,hfz,hnd⟩:=hW;have hA:DataW.TrodAll enc Tryz.prog W 0 (fun _=>true) true Tryz.f3.params.toList args.toList ds p:=hA0;rw[Tryz.params3]at hA hval;obtain⟨v0,vs0,d0,ds0,p0,q0,hargs,rfl,rfl,h0,r0⟩:=trodAll_cons hA;obtain⟨rfl,rfl,rfl⟩:=trodAll_nil r0;obtain rfl:args=#[v0]:=by cases args;simp_all
 obtain⟨rfl,rfl⟩:=trodVars_none hV;have k0:=h0;have lt0:∀x∈p0,x.block<W.heap.size:=by obtain⟨m,hm⟩:=k0;exact DataW.trod_lt m _ _ _ hm
 obtain⟨cs0,rfl,hsz0⟩:=okWide_struct Tryz.underlying41 (hval 0 41 v0 rfl rfl)
 obtain⟨z0,hz0,w0,l0⟩:∃r:Rt,cs0.toList=r.C.toList∧r.at W W.heap.size∧r.fit:=by
  obtain⟨fuel,hf⟩:=h0;exact Rt_cells ⟨fuel,_,hf⟩
 obtain rfl:cs0=z0.C:=Array.toList_inj.1 hz0;clear hA0 hval0;have hL2:=hL;rw[MakeChecks.laidMetH_plain _ _ _ (by kernel_rfl)]at hL2;have he:EnvA W.heap.size W:=envT_of hL2 hsh (by simp only[Rows.alphaFormatsRow,List.mem_cons,Prod.mk.injEq,true_or,or_true]);refine(zJc z0 W he w0 l0).mono fun e W' ⟨he,bel⟩=>?_
 subst he;exact⟨_,rfl,_,_,_,[],_,[],hW', trodAll_mk1 (shut_bool Tryz.underlying4 _),(trodAll_cons_mk (Below.trod laidOut (by kernel_rfl) (of_decide_eq_true (by kernel_rfl)) k0 bel lt0) trodAll_mk0),rfl,bel.frame _,fun h=>by cases h⟩
theorem over:Rows.alphaFormatsRow.holds Tryz.pinned (OpenSpec.ofChange Rows.alphaFormatsSpec) :=
 OpenClaim.holds_of_wide 3 Tryz.f3 rfl rfl rfl rfl rfl rfl rfl ⟨rfl,rfl,rfl,rfl,rfl⟩ rfl rfl rfl rfl rfl cName Tryz.func3 closed
  cInst cWrap
  (fun os started H enc _=>lifted os started H enc)
theorem proved:Rows.AlphaFormatsCardSaid :=
 Claim7.holds_tied_plain_at .later [] [.data,.data,.data,.data,.pinned] true (true, "fed5dd2439e2e935d544e45de4448d498b40734a81ba22b2b1576cbd1fb1fe73") false over (fun _ h=>by cases h) cWf (fun _ h=>by cases h) alphaFormats_row_tie rfl ⟨rfl,rfl⟩ cMain rfl
  (fun f fn hf hfn=>by
   obtain rfl:f=3:=Option.some.inj (cFn.symm.trans hf) |>.symm
   obtain rfl:fn=Tryz.f3:=(Option.some.inj (Tryz.func3.symm.trans hfn)).symm
   exact⟨cLooks,fun j t ht=>by
    rw[Tryz.params3]at ht;have hm:t∈([41]:List TypeId):=by simpa using Array.mem_of_getElem? ht
    have hall:=cStand
    exact(show Tryz.prog.wantsStandIn t=false by simpa using List.all_eq_true.1 hall t hm)⟩)
  cGoes
end Go.Proofs.YthcnojmldldpeaaGreatDoor.alphaFormats
