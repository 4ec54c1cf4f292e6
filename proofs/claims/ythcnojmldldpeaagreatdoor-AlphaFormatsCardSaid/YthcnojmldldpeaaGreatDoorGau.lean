/- An argument that is a router: what the walks are told of it. No condition. -/
import Derived.Test.YthcnojmldldpeaaGreatDoorGp
import Derived.Test.YthcnojmldldpeaaGreatDoorGo
set_option maxRecDepth 100000
namespace Go.Proofs.YthcnojmldldpeaaGreatDoor
open Lib (hid)
open Go.RowKit Go.ChangeShapes Go.WideShapes Go.Deep
inductive Kd where
 |s|i|u|b|t (T:TypeId)
def Kd.typ:Kd→TypeId|.s=>9|.i=>3|.u=>66|.b=>4|.t T=>T
def kdChk(P:Program)(o n:Nat):List Field→List Kd→Bool
 |[],[]=>o==n
 |f :: fs,k :: ks=>f.offset==o&&f.type==k.typ&&kdChk P (o+P.cellsOf f.type) n fs ks
 |_,_=>false
section
variable {H : Type} {enc : TypeId × Value → H} {w : World} {base : Nat} {spare : Nat → Bool} {held : Bool}
def Kd.ok(enc:TypeId × Value→H)(w:World)(base:Nat)(spare:Nat→Bool)(held:Bool)(v:List Value):Kd→Prop
 |.s=>∃a,v=[.string (str a)]
 |.i=>∃a,v=[.int .i64 a]
 |.u=>∃a:Nat,v=[.int .u32 (a:Int)]∧a<4294967296
 |.b=>∃a,v=[.bool a]
 |.t T=>∃fuel x,DataW.trod enc Tryz.prog w base spare held fuel T v=some x
def kdAll(enc:TypeId × Value→H)(w:World)(base:Nat)(spare:Nat→Bool)(held:Bool):List Kd→List Value→Prop
 |[],cs=>cs=[]
 |k :: ks,cs=>∃v r,cs=v++r∧k.ok enc w base spare held v∧kdAll enc w base spare held ks r
abbrev Trd(enc:TypeId × Value→H)(w:World)(base:Nat)(spare:Nat→Bool)(held:Bool)(T:TypeId)(cs:List Value):Prop:=∃fuel x,DataW.trod enc Tryz.prog w base spare held fuel T cs=some x
theorem u32_of' {a:Int}(h:(Lit.int .u32 a).wf=true):∃n:Nat,a=(n:Int)∧n<4294967296:=by
 have h2:0≤a∧a≤4294967295:=by simpa [Lit.wf,IntKind.min,IntKind.max,IntKind.signed,IntKind.bits] using h
 exact⟨a.toNat,by omega,by omega⟩
theorem Kd.of{k:Kd}{v:List Value}{fuel:Nat}{x:DataW H × List MemPlace}(h:DataW.trod enc Tryz.prog w base spare held fuel k.typ v=some x):k.ok enc w base spare held v:=by
 cases k with
 |s=>obtain⟨a,e,_⟩:=DataW.trod_string Tryz.underlying9 h;exact⟨bytes a,by rw[e,str_bytes]⟩
 |i=>obtain⟨a,e,_⟩:=DataW.trod_int Tryz.underlying3 h;exact⟨a,e⟩
 |u=>obtain⟨a,e,_,hw⟩:=DataW.trod_int Tryz.underlying66 h;obtain⟨n,rfl,hn⟩:=u32_of' hw;exact⟨n,e,hn⟩
 |b=>obtain⟨a,e,_⟩:=DataW.trod_bool Tryz.underlying4 h;exact⟨a,e⟩
 |t T=>exact⟨_,_,h⟩
theorem kdAll_of{cs:List Value}:∀(fs:List Field) (ks:List Kd) (o:Nat),kdChk Tryz.prog o cs.length fs ks=true→(∀f∈fs,∃fuel x,DataW.trod enc Tryz.prog w base spare held fuel f.type ((cs.drop f.offset).take (Tryz.prog.cellsOf f.type))=some x)→kdAll enc w base spare held ks (cs.drop o)
 |[],[],o,hc,_=>by
  simp only[kdChk,beq_iff_eq]at hc;exact List.drop_of_length_le (by omega)
 |[],_ :: _,_,hc,_=>by cases hc
 |_ :: _,[],_,hc,_=>by cases hc
 |f :: fs,k :: ks,o,hc,hf=>by
  simp only[kdChk,Bool.and_eq_true,beq_iff_eq]at hc;obtain⟨⟨h1,h2⟩,h3⟩:=hc;obtain⟨fuel,x,h⟩:=hf f List.mem_cons_self;refine⟨_,_,(List.take_append_drop (Tryz.prog.cellsOf f.type) _).symm,?_,?_⟩
  ·rw[h1]at h
   generalize (cs.drop o).take (Tryz.prog.cellsOf f.type)=v at h;rw[h2]at h;exact Kd.of h
  ·rw[List.drop_drop]
   exact kdAll_of fs ks _ h3 fun g hg=>hf g (List.mem_cons_of_mem _ hg)
theorem zCa{T:TypeId}{fs:Array Field}(hu:Tryz.prog.underlying T=some (.struct fs))(ks:List Kd){n:Nat}(hc:kdChk Tryz.prog 0 n fs.toList ks=true)(hn:Tryz.prog.cellsOf T=n){cs:List Value}(h:∃fuel x,DataW.trod enc Tryz.prog w base spare held fuel T cs=some x):kdAll enc w base spare held ks cs:=by
 obtain⟨fuel,x,h⟩:=h;obtain⟨xs,m,_,_,hl,hlen,hf⟩:=DataW.trod_struct hu h;refine kdAll_of (cs:=cs) fs.toList ks 0 (by rw[hl,hn];exact hc) fun f hm=>?_
 obtain⟨j,hj,e⟩:=List.getElem_of_mem hm;have hj' : j<xs.length:=by rw[hlen];exact hj
 exact⟨m,xs[j],(hf j f (by rw[←e];simp)).trans (List.getElem?_eq_getElem hj')⟩
theorem zBw{T E:TypeId}{α:Type}(dflt:α)(cells:α→Array Value)(ok:α→Prop){n:Nat}(hn:0<n)(hl:∀e,(cells e).toList.length=n)(hu:Tryz.prog.underlying T=some (.slice E))(hC:Tryz.prog.cellsOf E=n)
  (hone:∀{cs:List Value},(∃fuel x,DataW.trod enc Tryz.prog w base spare held fuel E cs=some x)→∃e,cs=(cells e).toList∧ok e)
  {cs:List Value} (h:∃fuel x,DataW.trod enc Tryz.prog w base spare held fuel T cs=some x) :
  ∃(v:Value) (es:List α),cs=[v]∧SlV w w.heap.size n cells v es∧∀e∈es,ok e:=by
 obtain⟨fuel,x,h⟩:=h
 have hc:∃a len cap,cs=[.slice a len cap]:=by
  rcases open_slice hu h with⟨rfl,_⟩|⟨ad,l,c,m,k,D,Pl,rfl,_⟩
  ·exact⟨_,_,_,rfl⟩
  ·exact⟨_,_,_,rfl⟩
 obtain⟨a,len,cap,rfl⟩:=hc;obtain⟨es,h1,h2,h3,h4⟩:=open_rows dflt (fun e=>(cells e).toList) ok hn hl hu hC (fun fuel cs x _ h=>hone ⟨fuel,x,h⟩) h;subst h1;exact⟨_,es,rfl,⟨a,cap,rfl,h2,h3⟩,h4⟩
theorem Wi_cells{cs:List Value}(h:Trd enc w base spare held 99 cs):∃a b:Nat,cs=[.int .u32 (a:Int),.int .u32 (b:Int)]∧a<4294967296∧b<4294967296:=by
 obtain⟨_,_,rfl,⟨a0,rfl,u0⟩,⟨_,_,rfl,⟨a1,rfl,u1⟩,rfl⟩⟩:=zCa Tryz.underlying99 [.u,.u] (n:=2) (by kernel_rfl) (by kernel_rfl) h;exact⟨a0,a1,rfl,u0,u1⟩
theorem Po_cells{cs:List Value}(h:Trd enc w base spare held 101 cs):∃a b:Int,cs=[.int .i64 a,.int .i64 b]:=by
 obtain⟨_,_,rfl,⟨a0,rfl⟩,⟨_,_,rfl,⟨a1,rfl⟩,rfl⟩⟩:=zCa Tryz.underlying101 [.i,.i] (n:=2) (by kernel_rfl) (by kernel_rfl) h;exact⟨a0,a1,rfl⟩
theorem zGo{cs:List Value}(h:Trd enc w base spare held 90 cs):∃e:Pf,cs=e.C.toList∧e.fit:=by
 obtain⟨_,_,rfl,⟨a0,rfl,u0⟩,⟨_,_,rfl,⟨a1,rfl⟩,rfl⟩⟩:=zCa Tryz.underlying90 [.u,.i] (n:=2) (by kernel_rfl) (by kernel_rfl) h;exact⟨⟨a0,a1⟩,rfl,u0⟩
theorem If_cells{cs:List Value}(h:Trd enc w base spare held 68 cs):∃e:If,cs=e.C.toList∧e.fit:=by
 obtain⟨_,_,rfl,⟨a0,rfl⟩,⟨_,_,rfl,⟨a1,rfl,u1⟩,⟨_,_,rfl,⟨a2,rfl⟩,⟨_,_,rfl,⟨a3,rfl⟩,⟨_,_,rfl,⟨a4,rfl⟩,⟨_,_,rfl,⟨a5,rfl⟩,⟨_,_,rfl,⟨a6,rfl⟩,⟨_,_,rfl,⟨a7,rfl⟩,⟨_,_,rfl,⟨a8,rfl⟩,⟨_,_,rfl,⟨a9,rfl⟩,⟨_,_,rfl,⟨a10,rfl⟩,⟨_,_,rfl,⟨a11,rfl⟩,rfl⟩⟩⟩⟩⟩⟩⟩⟩⟩⟩⟩⟩:=zCa Tryz.underlying68 [.s,.u,.i,.i,.b,.b,.i,.i,.b,.s,.s,.i] (n:=12) (by kernel_rfl) (by kernel_rfl) h;exact⟨⟨a0,a1,a2,a3,a4,a5,a6,a7,a8,a9,a10,a11⟩,rfl,u1⟩
theorem PRule_cells{cs:List Value}(h:Trd enc w base spare held 92 cs):∃e:PRule,cs=e.C.toList∧e.fit:=by
 obtain⟨_,_,rfl,⟨a0,rfl⟩,⟨_,_,rfl,g1,⟨_,_,rfl,⟨a2,rfl⟩,⟨_,_,rfl,⟨a3,rfl⟩,rfl⟩⟩⟩⟩:=zCa Tryz.underlying92 [.b,.t 90,.i,.i] (n:=5) (by kernel_rfl) (by kernel_rfl) h;obtain⟨⟨x1,y1⟩,rfl,u1⟩:=zGo g1;exact⟨⟨a0,x1,y1,a2,a3⟩,rfl,u1⟩
theorem PList_cells{cs:List Value}(h:Trd enc w base spare held 49 cs):∃e:PList,cs=e.C.toList∧e.at w w.heap.size∧e.fit:=by
 obtain⟨_,_,rfl,⟨a0,rfl⟩,⟨_,_,rfl,g1,rfl⟩⟩:=zCa Tryz.underlying49 [.s,.t 47] (n:=2) (by kernel_rfl) (by kernel_rfl) h;obtain⟨v1,l1,rfl,s1,f1⟩:=zBw (default:PRule) PRule.C (fun e:PRule=>e.fit) (n:=5) (by decide) (fun _=>rfl) Tryz.underlying47 (by kernel_rfl) PRule_cells g1;exact⟨⟨a0,v1,l1⟩,rfl,s1,f1⟩
theorem Cl_cells{cs:List Value}(h:Trd enc w base spare held 95 cs):∃e:Cl,cs=e.C.toList∧e.fit:=by
 obtain⟨_,_,rfl,⟨a0,rfl⟩,⟨_,_,rfl,⟨a1,rfl⟩,⟨_,_,rfl,⟨a2,rfl⟩,⟨_,_,rfl,⟨a3,rfl⟩,⟨_,_,rfl,⟨a4,rfl⟩,⟨_,_,rfl,⟨a5,rfl⟩,⟨_,_,rfl,⟨a6,rfl⟩,rfl⟩⟩⟩⟩⟩⟩⟩:=zCa Tryz.underlying95 [.b,.s,.i,.i,.i,.i,.i] (n:=7) (by kernel_rfl) (by kernel_rfl) h;exact⟨⟨a0,a1,a2,a3,a4,a5,a6⟩,rfl,trivial⟩
theorem RMap_cells{cs:List Value}(h:Trd enc w base spare held 52 cs):∃e:RMap,cs=e.C.toList∧e.at w w.heap.size∧e.fit:=by
 obtain⟨_,_,rfl,⟨a0,rfl⟩,⟨_,_,rfl,g1,rfl⟩⟩:=zCa Tryz.underlying52 [.s,.t 50] (n:=2) (by kernel_rfl) (by kernel_rfl) h;obtain⟨v1,l1,rfl,s1,f1⟩:=zBw (default:Cl) Cl.C (fun e:Cl=>e.fit) (n:=7) (by decide) (fun _=>rfl) Tryz.underlying50 (by kernel_rfl) Cl_cells g1;exact⟨⟨a0,v1,l1⟩,rfl,s1,trivial⟩
theorem Ru_cells{cs:List Value}(h:Trd enc w base spare held 103 cs):∃e:Ru,cs=e.C.toList∧e.fit:=by
 obtain⟨_,_,rfl,⟨a0,rfl⟩,⟨_,_,rfl,⟨a1,rfl⟩,⟨_,_,rfl,g2,⟨_,_,rfl,g3,⟨_,_,rfl,g4,⟨_,_,rfl,g5,rfl⟩⟩⟩⟩⟩⟩:=zCa Tryz.underlying103 [.b,.i,.t 99,.t 99,.t 101,.t 101] (n:=10) (by kernel_rfl) (by kernel_rfl) h;obtain⟨x2,y2,rfl,u2,z2⟩:=Wi_cells g2;obtain⟨x3,y3,rfl,u3,z3⟩:=Wi_cells g3;obtain⟨x4,y4,rfl⟩:=Po_cells g4;obtain⟨x5,y5,rfl⟩:=Po_cells g5;exact⟨⟨a0,a1,x2,y2,x3,y3,x4,y4,x5,y5⟩,rfl,⟨u2,z2,u3,z3⟩⟩
theorem AList_cells{cs:List Value}(h:Trd enc w base spare held 55 cs):∃e:AList,cs=e.C.toList∧e.at w w.heap.size∧e.fit:=by
 obtain⟨_,_,rfl,⟨a0,rfl⟩,⟨_,_,rfl,g1,rfl⟩⟩:=zCa Tryz.underlying55 [.s,.t 53] (n:=2) (by kernel_rfl) (by kernel_rfl) h;obtain⟨v1,l1,rfl,s1,f1⟩:=zBw (default:Ru) Ru.C (fun e:Ru=>e.fit) (n:=10) (by decide) (fun _=>rfl) Tryz.underlying53 (by kernel_rfl) Ru_cells g1;exact⟨⟨a0,v1,l1⟩,rfl,s1,f1⟩
theorem Tr_cells{cs:List Value}(h:Trd enc w base spare held 106 cs):∃e:Tr,cs=e.C.toList∧e.fit:=by
 obtain⟨_,_,rfl,⟨a0,rfl⟩,⟨_,_,rfl,⟨a1,rfl,u1⟩,⟨_,_,rfl,⟨a2,rfl,u2⟩,⟨_,_,rfl,⟨a3,rfl⟩,⟨_,_,rfl,⟨a4,rfl⟩,⟨_,_,rfl,⟨a5,rfl⟩,⟨_,_,rfl,⟨a6,rfl⟩,⟨_,_,rfl,⟨a7,rfl,u7⟩,⟨_,_,rfl,⟨a8,rfl,u8⟩,rfl⟩⟩⟩⟩⟩⟩⟩⟩⟩:=zCa Tryz.underlying106 [.i,.u,.u,.i,.i,.i,.s,.u,.u] (n:=9) (by kernel_rfl) (by kernel_rfl) h;exact⟨⟨a0,a1,a2,a3,a4,a5,a6,a7,a8⟩,rfl,⟨u1,u2,u7,u8⟩⟩
theorem Sr_cells{cs:List Value}(h:Trd enc w base spare held 109 cs):∃e:Sr,cs=e.C.toList∧e.fit:=by
 obtain⟨_,_,rfl,g0,⟨_,_,rfl,⟨a1,rfl,u1⟩,⟨_,_,rfl,⟨a2,rfl⟩,⟨_,_,rfl,⟨a3,rfl⟩,⟨_,_,rfl,⟨a4,rfl⟩,⟨_,_,rfl,⟨a5,rfl⟩,rfl⟩⟩⟩⟩⟩⟩:=zCa Tryz.underlying109 [.t 90,.u,.s,.b,.i,.i] (n:=7) (by kernel_rfl) (by kernel_rfl) h;obtain⟨⟨x0,y0⟩,rfl,u0⟩:=zGo g0;exact⟨⟨x0,y0,a1,a2,a3,a4,a5⟩,rfl,⟨u0,u1⟩⟩
theorem Rd_cells{cs:List Value}(h:Trd enc w base spare held 149 cs):∃e:Rd,cs=e.C.toList∧e.fit:=by
 obtain⟨_,_,rfl,⟨a0,rfl⟩,⟨_,_,rfl,⟨a1,rfl⟩,⟨_,_,rfl,⟨a2,rfl⟩,⟨_,_,rfl,⟨a3,rfl⟩,⟨_,_,rfl,⟨a4,rfl⟩,rfl⟩⟩⟩⟩⟩:=zCa Tryz.underlying149 [.i,.i,.i,.s,.i] (n:=5) (by kernel_rfl) (by kernel_rfl) h;exact⟨⟨a0,a1,a2,a3,a4⟩,rfl,trivial⟩
theorem AR_cells{cs:List Value}(h:Trd enc w base spare held 112 cs):∃e:AR,cs=e.C.toList∧e.fit:=by
 obtain⟨_,_,rfl,⟨a0,rfl⟩,⟨_,_,rfl,g1,rfl⟩⟩:=zCa Tryz.underlying112 [.i,.t 90] (n:=3) (by kernel_rfl) (by kernel_rfl) h;obtain⟨⟨x1,y1⟩,rfl,u1⟩:=zGo g1;exact⟨⟨a0,x1,y1⟩,rfl,u1⟩
theorem Nb_cells{cs:List Value}(h:Trd enc w base spare held 115 cs):∃e:Nb,cs=e.C.toList∧e.fit:=by
 obtain⟨_,_,rfl,⟨a0,rfl,u0⟩,⟨_,_,rfl,⟨a1,rfl⟩,⟨_,_,rfl,⟨a2,rfl⟩,⟨_,_,rfl,⟨a3,rfl⟩,rfl⟩⟩⟩⟩:=zCa Tryz.underlying115 [.u,.i,.s,.s] (n:=4) (by kernel_rfl) (by kernel_rfl) h;exact⟨⟨a0,a1,a2,a3⟩,rfl,u0⟩
theorem Ag_cells{cs:List Value}(h:Trd enc w base spare held 117 cs):∃e:Ag,cs=e.C.toList∧e.fit:=by
 obtain⟨_,_,rfl,g0,⟨_,_,rfl,⟨a1,rfl⟩,rfl⟩⟩:=zCa Tryz.underlying117 [.t 90,.b] (n:=3) (by kernel_rfl) (by kernel_rfl) h;obtain⟨⟨x0,y0⟩,rfl,u0⟩:=zGo g0;exact⟨⟨x0,y0,a1⟩,rfl,u0⟩
theorem Cd_cells{cs:List Value}(h:Trd enc w base spare held 119 cs):∃e:Cd,cs=e.C.toList∧e.fit:=by
 obtain⟨_,_,rfl,g0,⟨_,_,rfl,g1,⟨_,_,rfl,⟨a2,rfl⟩,rfl⟩⟩⟩:=zCa Tryz.underlying119 [.t 90,.t 90,.b] (n:=5) (by kernel_rfl) (by kernel_rfl) h;obtain⟨⟨x0,y0⟩,rfl,u0⟩:=zGo g0;obtain⟨⟨x1,y1⟩,rfl,u1⟩:=zGo g1;exact⟨⟨x0,y0,x1,y1,a2⟩,rfl,⟨u0,u1⟩⟩
theorem ls_cells{cs:List Value}(h:Trd enc w base spare held 31 cs):∃(a0:Bool) (a1:Int) (v2:Value) (l2:List AR) (v3:Value) (l3:List Rd),cs=[.bool a0,.int .i64 a1,v2,v3]∧(SlV w w.heap.size 3 AR.C v2 l2∧∀e∈l2,e.fit)∧(SlV w w.heap.size 5 Rd.C v3 l3∧∀e∈l3,e.fit):=by
 obtain⟨_,_,rfl,⟨a0,rfl⟩,⟨_,_,rfl,⟨a1,rfl⟩,⟨_,_,rfl,g2,⟨_,_,rfl,g3,rfl⟩⟩⟩⟩:=zCa Tryz.underlying31 [.b,.i,.t 28,.t 29] (n:=4) (by kernel_rfl) (by kernel_rfl) h;obtain⟨v2,l2,rfl,s2,f2⟩:=zBw (default:AR) AR.C (fun e:AR=>e.fit) (n:=3) (by decide) (fun _=>rfl) Tryz.underlying28 (by kernel_rfl) AR_cells g2;obtain⟨v3,l3,rfl,s3,f3⟩:=zBw (default:Rd) Rd.C (fun e:Rd=>e.fit) (n:=5) (by decide) (fun _=>rfl) Tryz.underlying29 (by kernel_rfl) Rd_cells g3;exact⟨a0,a1,v2,l2,v3,l3,rfl,⟨s2,f2⟩,⟨s3,f3⟩⟩
theorem dv_cells{cs:List Value}(h:Trd enc w base spare held 33 cs):∃(a0:Bool) (a1:Int) (a2:List UInt8) (a3:List UInt8) (v4:Value) (l4:List Rd),cs=[.bool a0,.int .i64 a1,.string (str a2),.string (str a3),v4]∧(SlV w w.heap.size 5 Rd.C v4 l4∧∀e∈l4,e.fit):=by
 obtain⟨_,_,rfl,⟨a0,rfl⟩,⟨_,_,rfl,⟨a1,rfl⟩,⟨_,_,rfl,⟨a2,rfl⟩,⟨_,_,rfl,⟨a3,rfl⟩,⟨_,_,rfl,g4,rfl⟩⟩⟩⟩⟩:=zCa Tryz.underlying33 [.b,.i,.s,.s,.t 29] (n:=5) (by kernel_rfl) (by kernel_rfl) h;obtain⟨v4,l4,rfl,s4,f4⟩:=zBw (default:Rd) Rd.C (fun e:Rd=>e.fit) (n:=5) (by decide) (fun _=>rfl) Tryz.underlying29 (by kernel_rfl) Rd_cells g4;exact⟨a0,a1,a2,a3,v4,l4,rfl,⟨s4,f4⟩⟩
theorem pv_cells{cs:List Value}(h:Trd enc w base spare held 39 cs):∃(a0:Bool) (a1:Int) (a2:Int) (v3:Value) (l3:List Nb) (v4:Value) (l4:List Pf) (v5:Value) (l5:List Ag) (v6:Value) (l6:List Cd) (v7:Value) (l7:List Rd),cs=[.bool a0,.int .i64 a1,.int .i64 a2,v3,v4,v5,v6,v7]∧(SlV w w.heap.size 4 Nb.C v3 l3∧∀e∈l3,e.fit)∧(SlV w w.heap.size 2 Pf.C v4 l4∧∀e∈l4,e.fit)∧(SlV w w.heap.size 3 Ag.C v5 l5∧∀e∈l5,e.fit)∧(SlV w w.heap.size 5 Cd.C v6 l6∧∀e∈l6,e.fit)∧(SlV w w.heap.size 5 Rd.C v7 l7∧∀e∈l7,e.fit):=by
 obtain⟨_,_,rfl,⟨a0,rfl⟩,⟨_,_,rfl,⟨a1,rfl⟩,⟨_,_,rfl,⟨a2,rfl⟩,⟨_,_,rfl,g3,⟨_,_,rfl,g4,⟨_,_,rfl,g5,⟨_,_,rfl,g6,⟨_,_,rfl,g7,rfl⟩⟩⟩⟩⟩⟩⟩⟩:=zCa Tryz.underlying39 [.b,.i,.i,.t 34,.t 35,.t 36,.t 37,.t 29] (n:=8) (by kernel_rfl) (by kernel_rfl) h;obtain⟨v3,l3,rfl,s3,f3⟩:=zBw (default:Nb) Nb.C (fun e:Nb=>e.fit) (n:=4) (by decide) (fun _=>rfl) Tryz.underlying34 (by kernel_rfl) Nb_cells g3;obtain⟨v4,l4,rfl,s4,f4⟩:=zBw (default:Pf) Pf.C (fun e:Pf=>e.fit) (n:=2) (by decide) (fun _=>rfl) Tryz.underlying35 (by kernel_rfl) zGo g4;obtain⟨v5,l5,rfl,s5,f5⟩:=zBw (default:Ag) Ag.C (fun e:Ag=>e.fit) (n:=3) (by decide) (fun _=>rfl) Tryz.underlying36 (by kernel_rfl) Ag_cells g5;obtain⟨v6,l6,rfl,s6,f6⟩:=zBw (default:Cd) Cd.C (fun e:Cd=>e.fit) (n:=5) (by decide) (fun _=>rfl) Tryz.underlying37 (by kernel_rfl) Cd_cells g6;obtain⟨v7,l7,rfl,s7,f7⟩:=zBw (default:Rd) Rd.C (fun e:Rd=>e.fit) (n:=5) (by decide) (fun _=>rfl) Tryz.underlying29 (by kernel_rfl) Rd_cells g7;exact⟨a0,a1,a2,v3,l3,v4,l4,v5,l5,v6,l6,v7,l7,rfl,⟨s3,f3⟩,⟨s4,f4⟩,⟨s5,f5⟩,⟨s6,f6⟩,⟨s7,f7⟩⟩
theorem Rt_cells{cs:List Value}(h:Trd enc w base spare held 41 cs):∃r:Rt,cs=r.C.toList∧r.at w w.heap.size∧r.fit:=by
 obtain⟨_,_,rfl,⟨a0,rfl⟩,⟨_,_,rfl,⟨a1,rfl⟩,⟨_,_,rfl,g2,⟨_,_,rfl,g3,⟨_,_,rfl,g4,⟨_,_,rfl,g5,⟨_,_,rfl,g6,⟨_,_,rfl,g7,⟨_,_,rfl,g8,⟨_,_,rfl,g9,⟨_,_,rfl,g10,rfl⟩⟩⟩⟩⟩⟩⟩⟩⟩⟩⟩:=zCa Tryz.underlying41 [.s,.i,.t 22,.t 23,.t 24,.t 25,.t 26,.t 27,.t 31,.t 33,.t 39] (n:=25) (by kernel_rfl) (by kernel_rfl) h;obtain⟨v2,l2,rfl,s2,f2⟩:=zBw (default:If) If.C (fun e:If=>e.fit) (n:=12) (by decide) (fun _=>rfl) Tryz.underlying22 (by kernel_rfl) If_cells g2;obtain⟨v3,l3,rfl,s3,f3⟩:=zBw (default:PList) PList.C (fun e:PList=>e.at w w.heap.size∧e.fit) (n:=2) (by decide) (fun _=>rfl) Tryz.underlying23 (by kernel_rfl) PList_cells g3;obtain⟨v4,l4,rfl,s4,f4⟩:=zBw (default:RMap) RMap.C (fun e:RMap=>e.at w w.heap.size∧e.fit) (n:=2) (by decide) (fun _=>rfl) Tryz.underlying24 (by kernel_rfl) RMap_cells g4;obtain⟨v5,l5,rfl,s5,f5⟩:=zBw (default:AList) AList.C (fun e:AList=>e.at w w.heap.size∧e.fit) (n:=2) (by decide) (fun _=>rfl) Tryz.underlying25 (by kernel_rfl) AList_cells g5;obtain⟨v6,l6,rfl,s6,f6⟩:=zBw (default:Tr) Tr.C (fun e:Tr=>e.fit) (n:=9) (by decide) (fun _=>rfl) Tryz.underlying26 (by kernel_rfl) Tr_cells g6;obtain⟨v7,l7,rfl,s7,f7⟩:=zBw (default:Sr) Sr.C (fun e:Sr=>e.fit) (n:=7) (by decide) (fun _=>rfl) Tryz.underlying27 (by kernel_rfl) Sr_cells g7;obtain⟨p0,p1,pv2,p2,pv3,p3,rfl,⟨p5,p6⟩,p7,p8⟩:=ls_cells g8;obtain⟨q0,q1,q2,q3,qv4,q4,rfl,q5,q6⟩:=dv_cells g9;obtain⟨r0,r1,r2,rv3,r3,rv4,r4,rv5,r5,rv6,r6,rv7,r7,rfl,⟨r8,r9⟩,⟨r10,r11⟩,⟨r12,r13⟩,⟨r14,r15⟩,r16,r17⟩:=pv_cells g10
 exact⟨⟨a0,a1,v2,v3,v4,v5,v6,v7,p0,p1,pv2,pv3,q0,q1,q2,q3,qv4,r0,r1,r2,rv3,rv4,rv5,rv6,rv7,l2,l3,l4,l5,l6,l7,p2,p3,q4,r3,r4,r5,r6,r7⟩,rfl,
  ⟨s2,s3,fun x hx=>(f3 x hx).1,s4,fun x hx=>(f4 x hx).1,s5,fun x hx=>(f5 x hx).1,s6,s7,p5,p7,q5,r8,r10,r12,r14,r16⟩,⟨f2,fun x hx=>(f3 x hx).2,fun x hx=>(f4 x hx).2,fun x hx=>(f5 x hx).2,f6,f7,p6,p8,q6,r9,r11,r13,r15,r17⟩⟩
end
end Go.Proofs.YthcnojmldldpeaaGreatDoor
