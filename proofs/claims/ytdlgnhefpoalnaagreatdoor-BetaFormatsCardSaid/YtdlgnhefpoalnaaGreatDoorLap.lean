/- Beta's Format: the walks of formatWildcard, formatPorts, source. Conditions: addresses are numbers below 2^32; Go's own tables lie in memory. -/
import Derived.Test.YtdlgnhefpoalnaaGreatDoorLao
import Derived.Test.YtdlgnhefpoalnaaGreatDoorLan
import Derived.Test.YtdlgnhefpoalnaaGreatDoorLaj
set_option maxHeartbeats 4000000
namespace Go.Proofs.YtdlgnhefpoalnaaGreatDoor
open Lib (hid)
open Go.RowKit
structure XT (T:TypeId) (gx:Nat) (cs:Array Value) (g d:Nat) (s:List UInt8) (w0 w:World):Prop where
 t:TX g d s w
 x:HasC T gx cs w
 k:FK g w0 w
 hg:gx≠g
 hT:T≠5
section
variable {T : TypeId} {gx g d d' : Nat} {cs : Array Value} {s s' : List UInt8} {w0 w w' : World}
theorem XT.below(h:XT T gx cs g d s w0 w)(hb:Below w.heap.size w w'):XT T gx cs g d s w0 w' := ⟨h.t.keep hb,h.x.keep hb,h.k.trans (.of_below hb),h.hg,h.hT⟩
theorem XT.go(h:XT T gx cs g d s w0 w)(ht:TX g d' s' w')(hk:FK g w w'):XT T gx cs g d' s' w0 w' := ⟨ht,h.x.fk hk h.hg h.hT,h.k.trans hk,h.hg,h.hT⟩
theorem XT.drew(h:XT T gx cs g d s w0 w):XT T gx cs g d s w0 w.drew:=h.below (zAo _)
theorem XT.new(ht:TX g d s w)(hk:FK g w0 w)(hT:T≠5):XT T w.heap.size cs g d s w0 (w.alloc (.cells cs T)) :=
 have hb:=(Below.refl w.heap.size w).alloc (yI _) (.cells cs T)
 ⟨ht.keep hb,HasC.new w _ _,hk.trans (.of_below hb),by have:=ht.lt;omega,hT⟩
theorem zBd(h:XT T gx cs g d s w0 w)(ws:List (List UInt8))(hn:ws.length≤1000)(hl:s.length+(lineW d ws [59]).length≤140737488355328) :
  Calls Tryz.prog 28 #[.pointer (some ⟨g,0,none⟩),.slice (some ⟨w.heap.size,0,none⟩) ws.length ws.length] (w.alloc (.cells (ws.map strV).toArray 9)) fun e w' => e=.returned (.tuple #[])∧XT T gx cs g d (s++lineW d ws [59]) w0 w' ∧ FK g w w' := by
 have hb:=(Below.refl w.heap.size w).alloc (yI _) (.cells (ws.map strV).toArray 9);refine(put_any g d s _ ws _ (h.t.keep hb) (.new (by have:=h.t.lt;omega) (HasC.new w _ _)) hn hl).mono ?_;rintro e w2 ⟨rfl,h2,k2⟩;exact⟨rfl,(h.below hb).go h2 k2,(FK.of_below hb).trans k2⟩
theorem zEn(h:XT T gx cs g d s w0 w)(ws:List (List UInt8))(hn:ws.length≤1000)(hl:s.length+(lineW d ws [32,123]).length≤140737488355328) :
  Calls Tryz.prog 27 #[.pointer (some ⟨g,0,none⟩),.slice (some ⟨w.heap.size,0,none⟩) ws.length ws.length] (w.alloc (.cells (ws.map strV).toArray 9)) fun e w' => e=.returned (.tuple #[])∧XT T gx cs g (d+1) (s++lineW d ws [32,123]) w0 w' ∧ FK g w w' := by
 have hb:=(Below.refl w.heap.size w).alloc (yI _) (.cells (ws.map strV).toArray 9);refine(open_any g d s _ ws _ (h.t.keep hb) (.new (by have:=h.t.lt;omega) (HasC.new w _ _)) hn hl).mono ?_;rintro e w2 ⟨rfl,h2,k2⟩;exact⟨rfl,(h.below hb).go h2 k2,(FK.of_below hb).trans k2⟩
theorem zFp(h:XT T gx cs g (d+1) s w0 w)(hl:s.length+(lineW d [] [125]).length≤140737488355328) :
  Calls Tryz.prog 30 #[.pointer (some ⟨g,0,none⟩)] w fun e w' => e=.returned (.tuple #[])∧XT T gx cs g d (s++lineW d [] [125]) w0 w' ∧ FK g w w' := by
 refine(close_any g d s w h.t hl).mono ?_;rintro e w2 ⟨rfl,h2,k2⟩;exact⟨rfl,h.go h2 k2,k2⟩
theorem zFq(h:XT T gx cs g d s w0 w)(a b:List UInt8)(hl:s.length+(textL d (nameN a b)).length≤140737488355328) :
  Calls Tryz.prog 102 #[.pointer (some ⟨g,0,none⟩),.string (str a),.string (str b)] w fun e w' => e=.returned (.tuple #[])∧XT T gx cs g d (s++textL d (nameN a b)) w0 w' ∧ FK g w w' := by
 refine(foptional_any g d s a b w h.t hl).mono ?_;rintro e w2 ⟨rfl,h2,k2⟩;exact⟨rfl,h.go h2 k2,k2⟩
end
theorem zAq{d:Nat}{b:Bool}{ws:List (List UInt8)}(h:b=true):textL d (optN b (stn ws))=lineW d ws [59]:=by rw[zGt,h,if_pos rfl,zAn]
theorem zAl{d:Nat}{b:Bool}{n:Nd}(h:b=false):textL d (optN b n)=[]:=by rw[zGt,h];rfl
theorem zBt(d:Nat)(a b:List Nd):textL d (a++b)=textL d a++textL d b:=by
 induction a with
 |nil=>simp only[List.nil_append,textL]
 |cons x r ih=>simp only[List.cons_append,textL,ih,yE]
theorem zAz(d:Nat)(n:Nd):textL d [n]=textN d n:=by simp only[textL,yF]
theorem zBm(d:Nat)(ws:List (List UInt8))(ks:List Nd):textN d (bln ws ks)=lineW d ws [32,123]++textL (d+1) ks++lineW d [] [125]:=by simp only[bln,textN]
theorem zEx{x:List UInt8}(h:(!x.isEmpty)=true):(str x).toList.isEmpty=false:=by rw[zAh];simpa using h
theorem zEy{x:List UInt8}(h:(!x.isEmpty)=false):(str x).toList.isEmpty=true:=by rw[zAh];simpa using h
theorem not_u32{m:Nat}(h:m<4294967296):bits .xor .u32 IntKind.u32.max (m:Int)=((4294967295 - m:Nat):Int):=by
 have h1:=u32_xor_nat 4294967295 m (by omega) h;rw[show((4294967295:Nat):Int)=IntKind.u32.max by decide]at h1;rw[h1,xor_all (by simpa using h)]
theorem catS(a b:List UInt8):str a++str b=str (a++b):=zIa a b
def WB(a m:Nat)(w0 w:World):Prop:=HasC 140 w0.heap.size #[.int .u32 (a:Int),.int .u32 (m:Int)] w∧Below w0.heap.size w0 w
theorem WB.keep{a m:Nat}{w0 w w' : World}(h:WB a m w0 w)(hb:Below w.heap.size w w'):WB a m w0 w' := ⟨h.1.keep hb,h.2.trans (hb.mono (Nat.le_of_lt (zBj h.1)))⟩
set_option maxRecDepth 100000 in
theorem fwild_any(a m:Nat)(w:World)(ha:a<4294967296)(hm:m<4294967296)(he:Env w):Calls Tryz.prog 188 #[.agg #[.int .u32 (a:Int),.int .u32 (m:Int)]] w fun e w' => e=.returned (.string (str (wildW a m)))∧Below w.heap.size w w' := by
 have nx:=not_u32 hm;have us:IntKind.u32.signed=false:=rfl;have HB:Hid (Below w.heap.size w (w.alloc (.cells #[.int .u32 (a:Int),.int .u32 (m:Int)] 140))):=hid ((Below.refl w.heap.size w).alloc (yI _) _);have HE:=hid he;clear he;cases hl:zBn (4294967295 - m) 33 with
 |some n=>
  have l1:(zBn (4294967295 - m) 33).getD 0=n:=by rw[hl];rfl
  have l2:(zBn (4294967295 - m) 33).isSome=true:=by rw[hl];rfl
  by_cases h32:n=32
  ·have E:Hid (wildW a m=fmtA a):=hid (by unfold wildW;rw[hl];simp only[if_pos h32])
   subst h32;go_enter Tryz.func188,Tryz.ntmps188;go_wp2_with fail;refine(zJp (4294967295 - m) _).mono ?_;rintro e w1 ⟨rfl,rfl⟩;rw[l1,l2];go_wp2_with fail;refine(zDa a _ ha (HE.out.below HB.out)).mono ?_;rintro e w1 ⟨rfl,hb⟩;have R:=hid (HB.out.trans (hb.mono HB.out.size));clear hb;go_wp2;go_ret;exact⟨by rw[E.out];rfl,R.out⟩
  ·have E:Hid (wildW a m=hostF a n):=hid (by unfold wildW;rw[hl];simp only[if_neg h32])
   have d32:((n:Int)==32)=false:=by rw[beq_eq_false_iff_ne];omega
   go_enter Tryz.func188,Tryz.ntmps188;go_wp2_with fail;refine(zJp (4294967295 - m) _).mono ?_;rintro e w1 ⟨rfl,rfl⟩;rw[l1,l2];go_wp2_with fail;refine(zHl a n _ ha (HE.out.below HB.out)).mono ?_;rintro e w1 ⟨rfl,hb⟩;have R:=hid (HB.out.trans (hb.mono HB.out.size));clear hb;go_wp2;go_ret;exact⟨by rw[E.out];rfl,R.out⟩
 |none=>
  have l1:(zBn (4294967295 - m) 33).getD 0=0:=by rw[hl];rfl
  have l2:(zBn (4294967295 - m) 33).isSome=false:=by rw[hl];rfl
  have E:Hid (wildW a m=fmtA a++126 :: fmtA m):=hid (by unfold wildW;rw[hl];simp);have s1:(str (fmtA a)).size≤16:=by rw[zBa];exact zDd a
  have s2:(str (fmtA m)).size≤16:=by rw[zBa];exact zDd m
  go_enter Tryz.func188,Tryz.ntmps188;go_wp2_with fail;refine(zJp (4294967295 - m) _).mono ?_;rintro e w1 ⟨rfl,rfl⟩;rw[l1,l2];go_upto_region 6 with fail
  have q1:str (fmtA a)++⟨#[126]⟩=str (fmtA a++[126]):=catS _ [126];have q2:str (fmtA a++[126])++str (fmtA m)=str (fmtA a++[126]++fmtA m):=catS _ _;have z1:¬(9223372036854775807<(str (fmtA a)).size+1):=by omega
  have z2:¬(9223372036854775807<(str (fmtA a++[126])).size+(str (fmtA m)).size):=by rw[zBa]at s1⊢;rw[yA];simp only[yG,yH];omega
  have HC:Hid (WB a m w (w.alloc (.cells #[.int .u32 (a:Int),.int .u32 (m:Int)] 140))):=hid ⟨HasC.new w _ _,HB.out⟩;have HF:Hid (∀(b:Nat),b<4294967296→∀W,WB a m w W→Calls Tryz.prog 106 #[.int .u32 (b:Int)] W fun e w' => e=.returned (.string (str (fmtA b)))∧WB a m w w'):=hid fun b hb W hW=>(zDa b W hb (HE.out.below hW.2)).mono fun e w' ⟨he,hk⟩=>⟨he,hW.keep hk⟩
  have HX:Hid (∀W,WB a m w W→W.cell? ⟨w.heap.size,0,none⟩=some (.int .u32 (a:Int))∧W.cell? ⟨w.heap.size,1,none⟩=some (.int .u32 (m:Int))):=hid fun W hW=>⟨hW.1.cell 0,hW.1.cell 1⟩
  clear s1 s2 nx us;refine zBf (fun W=>WB a m w W) (by kernel_rfl) (by kernel_rfl) (HC.out.keep (zAo _)) ?_
  repeat
   (first
    |(refine zCk (v:=?_) ?_ ?_ ?_;rotate_left;(· rfl);(· (intro W hW;obtain⟨c0,c1⟩:=HX.out W hW;go_simp<;>rfl)))
    |(refine zBp ?_ ?_ (HF.out a ha) ?_;(· rfl);(· (intro W hW;go_simp<;>rfl)))
    |(refine zBp ?_ ?_ (HF.out m hm) ?_;(· rfl);(· (intro W hW;go_simp<;>rfl))))
   simp only[Act.put,yB,yC,yD]
  refine zDn (fun wq hS=>?_);have R:=hid hS.2;clear hS;go_wp2;go_ret;exact⟨by rw[E.out];rfl,R.out⟩
def PB(lo hi:Int)(w0 w:World):Prop:=HasC 142 w0.heap.size #[.int .i64 lo,.int .i64 hi] w∧Below w0.heap.size w0 w
theorem PB.keep{lo hi:Int}{w0 w w' : World}(h:PB lo hi w0 w)(hb:Below w.heap.size w w'):PB lo hi w0 w' := ⟨h.1.keep hb,h.2.trans (hb.mono (Nat.le_of_lt (zBj h.1)))⟩
theorem zMw{n:Int}(h:n≤16777215):(str (decI n)).size≤9:=by rw[zBa];exact zGw 8 _ (by omega)
set_option maxRecDepth 100000 in
theorem fports_any(lo hi:Int)(w:World)(h0:0≤lo)(h1:lo≤hi)(h2:hi≤65535)(he:Env w):Calls Tryz.prog 189 #[.agg #[.int .i64 lo,.int .i64 hi]] w fun e w' => e=.returned (.string (str (portW lo hi)))∧Below w.heap.size w w' := by
 have HC:Hid (PB lo hi w (w.alloc (.cells #[.int .i64 lo,.int .i64 hi] 142))):=hid ⟨HasC.new w _ _,(Below.refl w.heap.size w).alloc (yI _) _⟩;have HF:Hid (∀(n:Int),0≤n→n≤16777215→∀W,PB lo hi w W→Calls Tryz.prog 29 #[.int .i64 n] W fun e w' => e=.returned (.string (str (decI n)))∧PB lo hi w w'):=hid fun n h0 h1 W hW=>(zCc n h0 h1 W (he.below hW.2)).mono fun e w' ⟨he,hk⟩=>⟨he,hW.keep hk⟩
 have HX:Hid (∀W,PB lo hi w W→W.cell? ⟨w.heap.size,0,none⟩=some (.int .i64 lo)∧W.cell? ⟨w.heap.size,1,none⟩=some (.int .i64 hi)):=hid fun W hW=>⟨hW.1.cell 0,hW.1.cell 1⟩
 clear he;by_cases hh:lo=hi
 ·subst hh
  have E:Hid (portW lo lo=decI lo):=hid (by unfold portW;rw[if_pos (by simp)]);go_enter Tryz.func189,Tryz.ntmps189;go_wp2_with fail;refine(HF.out lo h0 (by omega) _ HC.out).mono ?_;rintro e w1 ⟨rfl,hb⟩;have R:=hid hb.2;clear hb;go_wp2;go_ret;exact⟨by rw[E.out];rfl,R.out⟩
 ·have d:(lo==hi)=false:=by simpa using hh
  have E:Hid (portW lo hi=decI lo++45 :: decI hi):=hid (by unfold portW;rw[if_neg (by simpa using hh)];simp);have s1:=zMw (n:=lo) (by omega);have s2:=zMw (n:=hi) (by omega);have q1:str (decI lo)++⟨#[45]⟩=str (decI lo++[45]):=catS _ [45];have q2:str (decI lo++[45])++str (decI hi)=str (decI lo++[45]++decI hi):=catS _ _;have z1:¬(9223372036854775807<(str (decI lo)).size+1):=by omega
  have z2:¬(9223372036854775807<(str (decI lo++[45])).size+(str (decI hi)).size):=by rw[zBa]at s1⊢;rw[yA];simp only[yG,yH];omega
  have P0:=hid (HF.out lo h0 (by omega));have P1:=hid (HF.out hi (by omega) (by omega));clear s1 s2 hh HF;go_enter Tryz.func189,Tryz.ntmps189;go_upto_region 3 with fail
  refine zBf (fun W=>PB lo hi w W) (by kernel_rfl) (by kernel_rfl) (HC.out.keep (zAo _)) ?_
  repeat
   (first
    |(refine zCk (v:=?_) ?_ ?_ ?_;rotate_left;(· rfl);(· (intro W hW;obtain⟨c0,c1⟩:=HX.out W hW;go_simp<;>rfl)))
    |(refine zBp ?_ ?_ P0.out ?_;(· rfl);(· (intro W hW;go_simp<;>rfl)))
    |(refine zBp ?_ ?_ P1.out ?_;(· rfl);(· (intro W hW;go_simp<;>rfl))))
   simp only[Act.put,yB,yC,yD]
  refine zDn (fun wq hS=>?_);have R:=hid hS.2;clear hS;go_wp2;go_ret;exact⟨by rw[E.out];rfl,R.out⟩
end Go.Proofs.YtdlgnhefpoalnaaGreatDoor
