/- The frame that every card of this seat shares: the wrap that hands a contract both the world's shape and the listed variables, and Env out of them. No condition. -/
import Derived.Test.YthcnojmldldpeaaGreatDoorGq
import Derived.Test.YthcnojmldldpeaaGreatDoorCards
import Derived.Test.YthcnojmldldpeaaGreatDoorTie
import Derived.HandedShaped
import Derived.Lay
import Derived.Stop.LaidErr
namespace Go.Proofs.YthcnojmldldpeaaGreatDoor
open Lib (hid)
open Go.RowKit Go.ChangeShapes Go.WideShapes Go.ChangeAt
theorem lift_laid{H:Type}{enc:TypeId × Value→H}{a:Assume}{C:Checked}{os:Os}{f:FuncId}{fn:Func}{s:ChangeSpec}{conds:List PathCond}{apart fresh handsOn again:Bool}{X:World→Array Value→Prop}
  (hX:∀(w w' : World) (args:Array Value),w.heap=w'.heap→X w args→X w' args)
  (own:ownKnob C.prog.godebug=none) (started:os.Started) (noInit:C.prog.inits.idxOf? f=none) (hfn:C.prog.funcs[f]? = some fn)
  (witness:∃(w:World) (tape:Tape) (i:Input),w.os=os∧(w.forCall tape i).Shaped C.prog∧i.vars=[]∧Input.okWide C.prog (w.forCall tape i) .any w.heap.size f i ∧
   ((s.pre enc C.prog fn conds apart (w.forCall tape i).memory i.args∧X (w.forCall tape i).memory i.args)∧sizedMet enc C.prog fn (OpenSpec.ofChange s) apart (w.forCall tape i).memory i.args)∧a.holds C.prog (lone (Frame.enter C.prog f i.args .normal) [] (w.forCall tape i)))
  (contract:∀(W:World) (base:Nat) (args:Array Value) (ds gs:List (DataW H)) (before:List MemPlace),
   (∀(j:Nat) t v,fn.params[j]? = some t→args[j]? = some v→Value.okWide C.prog W .any base t v) →
   DataW.Whole enc C.prog fn.params.toList s.vars apart W args.toList ds gs before→X W args→W.ShapedOpen C.prog →
   Calls C.prog f args W fun e W' =>∃v,e=.returned v∧s.post enc C.prog fn apart fresh handsOn again W args v W') :
  ReturnsInHanded a C os f .any (fun w args=>(s.pre enc C.prog fn conds apart w args∧X w args)∧sizedMet enc C.prog fn (OpenSpec.ofChange s) apart w args) (s.post enc C.prog fn apart fresh handsOn again):=by
 refine returnsInHanded_of_calls own started noInit witness ?_;intro w tape i _ hsh _ hok hpre _;obtain⟨_,_,_,fn', hfn', _,_,_,_,hval⟩:=hok;obtain rfl:fn' = fn:=Option.some.inj (hfn'.symm.trans hfn);obtain⟨⟨⟨ds,gs,before,hw,_⟩,hx⟩,_⟩:=hpre;refine(contract (w.forCall tape i) w.heap.size i.args ds gs before hval (DataW.Whole.of_heap (w' := w.forCall tape i) (by rfl) hw) (hX _ _ _ (by rfl) hx) hsh).mono fun e W' ⟨v,he,hp⟩=>?_
 subst he;exact ChangeSpec.post_blind hp
theorem tab_of_reads{P:Program}{w:World}{name:String}{k:IntKind}{zs:List Int}{g:Nat}{t e:TypeId}{n:Nat}
  (hg:P.globalNamed name=some g) (hty:(P.globals[g]?).map (·.type)=some t) (ht:P.underlying t=some (.array n e)) (he:P.underlying e=some (.int k)) (hce:P.cellsOf e=1) (hct:P.cellsOf t=n)
  (h:Lib.VarReads P w name (Lib.tabData k zs)):Lib.TabIs P w name k zs:=by
 obtain⟨g', t', cs,fuel,p,h1,h2,h3,h4⟩:=h;obtain rfl:=Option.some.inj (hg.symm.trans h1);obtain rfl:=Option.some.inj (hty.symm.trans h2);have:=Lib.cells_of_tab ht he hce hct h4;unfold Lib.TabIs;rw[h3,←this]
theorem var_lt{P:Program}{w:World}{name:String}{g:Nat}{cs:Array Value}(hg:P.globalNamed name=some g)(h:w.var? P name=some cs):g<w.heap.size:=by
 unfold World.var? at h;simp only[hg,Option.bind_some]at h;rcases Nat.lt_or_ge g w.heap.size with h' | h'
 ·exact h'
 ·simp[Array.getElem?_eq_none h']at h
theorem cell_lt{w:World}{b j:Nat}{v:Value}(h:w.cell? ⟨b,j,none⟩=some v):b<w.heap.size:=by
 rcases Nat.lt_or_ge b w.heap.size with h' | h'
 ·exact h'
 ·simp[World.cell?,Array.getElem?_eq_none h']at h
theorem pow_datum:(Rows.laid_internal_strconv_uint64pow10:DataW Unit)=Lib.tabData .u64 Lib.pow10Tab:=by kernel_rfl
theorem env_of{w:World}{l:List (String × DataW Unit)}(hL:laidMet Tryz.prog l w)(hsh:w.ShapedOpen Tryz.prog)(hm:("internal/strconv.uint64pow10", (Rows.laid_internal_strconv_uint64pow10:DataW Unit))∈l):Env w:=by
 have c1:∃m,w.cell? ⟨3,0,none⟩=some (.int .i64 m) :=
  Go.Proofs.cell_of_shapedOpen_int (zero:=#[.int .i64 0]) (t:=3) hsh (of_decide_eq_true (by kernel_rfl)) (by kernel_rfl) rfl (by kernel_rfl) (by kernel_rfl) Tryz.underlying3
 rw[pow_datum]at hm
 have c2:Lib.TabIs Tryz.prog w "internal/strconv.uint64pow10" .u64 Lib.pow10Tab :=
  tab_of_reads Tryz.gPow (by kernel_rfl) Tryz.underlying222 Tryz.underlying147 (by kernel_rfl) (by kernel_rfl) (Lib.laidMet.reads hL hm)
 obtain⟨m,hc⟩:=c1;exact⟨⟨m,hc⟩,c2,cell_lt hc,var_lt Tryz.gPow c2⟩
theorem envT_of{w:World}{l:List (String × DataW Unit)}(hL:laidMet Tryz.prog l w)(hsh:w.ShapedOpen Tryz.prog)(hm:("internal/strconv.uint64pow10", (Rows.laid_internal_strconv_uint64pow10:DataW Unit))∈l):EnvA w.heap.size w:=by
 have h:=env_of hL hsh hm;exact⟨h,h.2.2.1,h.2.2.2⟩
end Go.Proofs.YthcnojmldldpeaaGreatDoor
