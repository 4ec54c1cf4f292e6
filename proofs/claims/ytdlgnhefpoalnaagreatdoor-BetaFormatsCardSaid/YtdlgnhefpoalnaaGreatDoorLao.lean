/- The walks of beta's text: put, open, close, optional; of number. Conditions: the words lie in a block of their own; what is written is at most 2^47 bytes. -/
import Derived.Test.YtdlgnhefpoalnaaGreatDoorLam
import Derived.Test.YtdlgnhefpoalnaaGreatDoorLac
import Derived.Test.YtdlgnhefpoalnaaGreatDoorLag
set_option maxHeartbeats 4000000
namespace Go.Proofs.YtdlgnhefpoalnaaGreatDoor
open Lib (hid)
open Go.RowKit
abbrev TX(g d:Nat)(s:List UInt8)(w:World):Prop:=FBx 94 [.int .i64 d] g s w
def SlS(g:Nat)(v:Value)(ws:List (List UInt8))(w:World):Prop :=
 (v=.slice none 0 0∧ws=[])∨∃(b c:Nat) (cs:Array Value),v=.slice (some ⟨b,0,none⟩) ws.length c∧ws.length≤c∧b≠g∧HasC 9 b cs w∧∀(j:Nat) (x:List UInt8),ws[j]? = some x→cs[j]? = some (strV x)
theorem SlS.new{g b:Nat}{ws:List (List UInt8)}{w:World}(hb:b≠g)(h:HasC 9 b (ws.map strV).toArray w):SlS g (.slice (some ⟨b,0,none⟩) ws.length ws.length) ws w :=
 Or.inr ⟨b,_,_,rfl,yI _,hb,h,fun j x hx=>by rw[List.getElem?_toArray,List.getElem?_map,hx];rfl⟩
theorem SlS.fk{g:Nat}{v:Value}{ws:List (List UInt8)}{w w' : World}(h:SlS g v ws w)(hf:FK g w w'):SlS g v ws w' := by
 rcases h with h|⟨b,c,cs,hv,hc,hb,hs,hj⟩
 ·exact .inl h
 ·exact .inr ⟨b,c,cs,hv,hc,hb,hs.fk hf hb (by decide),hj⟩
theorem joinW_lib(ws:List (List UInt8)):Lib.join ws [32]=joinW ws:=by
 cases ws with
 |nil=>rfl
 |cons x r=>
  rw[Lib.join_cons];simp only[joinW,Lib.joinTail]
  congr 1
theorem joinBA(ws:List (List UInt8)):Lib.join ((ws.map str).map (·.data.toList)) [32]=joinW ws:=by
 rw[List.map_map,show((fun x:ByteArray=>x.data.toList) ∘ str)=id from funext fun l=>by simp[str],List.map_id,joinW_lib]
theorem join_any(g:Nat)(v:Value)(ws:List (List UInt8))(w:World)(h:SlS g v ws w)(hn:ws.length≤140737488355328)(hl:(joinW ws).length≤140737488355328) :
  Calls Tryz.prog 184 #[v,.string ⟨#[32]⟩] w fun e w' => e=.returned (.string (str (joinW ws)))∧Below w.heap.size w w' := by
 rcases h with⟨rfl,rfl⟩|⟨b,c,cs,rfl,hcc,_,hc,hj⟩
 ·exact(Tryz.strings_Join_none none 0 _ w).mono fun e w' ⟨he,hw⟩=>⟨he,hw ▸ Below.refl _ _⟩
 ·have:=Tryz.strings_Join b 0 c (ws.map str) ⟨#[32]⟩ w (fun j x hx=>by
   rw[Nat.zero_add,hc.cell];rw[List.getElem?_map]at hx;cases hw:ws[j]? with
   |none=>rw[hw]at hx;cases hx
   |some y=>rw[hw]at hx;cases hx;exact hj j y hw) (zBj hc) (by rw[List.length_map];exact hn) (by rw[List.length_map];exact hcc) (by rw[joinBA];exact hl)
  rw[List.length_map]at this;refine this.mono ?_;rintro e w' ⟨rfl,hb⟩;refine⟨?_,hb⟩;rw[joinBA];rfl
theorem zLw(d:Nat):(ind d).length=2*d:=by
 induction d with
 |zero=>rfl
 |succ d ih=>rw[ind,yA,ih];simp;omega
theorem zKr(d:Nat)(ws:List (List UInt8))(e:List UInt8):(lineW d ws e).length=2*d+(joinW ws).length+e.length+1:=by
 simp only[lineW,yA,zLw,yG,yH]
def TPost(g d:Nat)(s l:List UInt8)(w:World)(e:Ending)(w' : World):Prop:=e=.returned (.tuple #[])∧TX g d (s++l) w' ∧ FK g w w'
theorem line_any(g d:Nat)(s:List UInt8)(en:List UInt8)(v:Value)(ws:List (List UInt8))(w:World)(h:TX g d s w)(hv:SlS g v ws w)(hn:ws.length≤1000)(hl:s.length+(lineW d ws en).length≤140737488355328) :
  Calls Tryz.prog 99 #[.pointer (some ⟨g,0,none⟩),.string (str en),v] w (TPost g d s (lineW d ws en) w):=by
 have HL:=hid hl;rw[zKr]at hl;have hg:g<w.heap.size:=by obtain⟨p,u,_,hc,_⟩:=h;exact zBj hc
 have H:=hid h;have HV:=hid hv;have hd:d≤140737488355328:=by omega
 have c1:∀W,TX g d s W∨True→True:=fun _ _=>trivial
 clear h hv c1
 have HD:Hid (∀W t,TX g d t W→W.cell? ⟨g,2,none⟩=some (.int .i64 d)):=hid fun W t h=>by
  obtain⟨p,u,_,hc,_⟩:=h;rw[hc.cell];rfl
 have cd:=HD.out _ _ H.out;go_enter Tryz.func99,Tryz.ntmps99;go_wp2_with fail;clear cd;go_loopg [10] d (fun gh i wr=>∃k:Nat,k+gh=d∧i=.int .i64 k∧Hid (TX g d (s++ind k) wr∧FK g w wr));case atStart=>exact⟨0,by omega,rfl,hid ⟨by rw[ind,yF];exact H.out,FK.refl _ _⟩⟩
 case round=>
  obtain⟨k,hk,rfl,HR⟩:=hrel;by_cases hlt:k<d;case pos=>
   have hkz:(k:Int)<(d:Int):=by omega
   have hsz:g<wr.heap.size:=by have:=HR.out.2.size;omega
   go_wp2_with fail;refine(zIs holdsT HR.out.1 [32,32] (by rw[yA,zLw];simp only[yG,yH];omega) (Nat.le_of_lt hsz)).mono ?_;rintro e w1 ⟨rfl,h1,k1⟩;have H1:Hid (TX g d (s++ind (k+1)) w1∧FK g w w1):=hid ⟨by rw[ind,←yE];exact h1.x,HR.out.2.trans k1⟩;clear h1 k1;go_wp2;go_roundg (d - (k+1));case measure=>omega
   case rel=>exact⟨k+1,by omega,by go_num,H1⟩
  case neg=>
   have hkz:¬((k:Int)<(d:Int)):=by omega
   obtain rfl:k=d:=by omega
   go_wp2_with fail
   have HJ:Hid (∀W,(TX g k (s++ind k) W∧SlS g v ws W∧FK g w W)→Calls Tryz.prog 184 #[v,.string ⟨#[32]⟩] W fun e w' => e=.returned (.string (str (joinW ws)))∧TX g k (s++ind k) w' ∧ SlS g v ws w' ∧ FK g w w'):=hid fun W ⟨h1,h2,h3⟩=>by
    refine(join_any g v ws W h2 (by omega) (by omega)).mono ?_;rintro e w' ⟨rfl,hb⟩;have hf:FK g W w' := FK.of_below hb;exact⟨rfl,h1.keep hb,h2.fk hf,h3.trans hf⟩
   refine zCj (fun W=>TX g k (s++ind k) W∧SlS g v ws W∧FK g w W) 5 (by kernel_rfl) (by kernel_rfl) ?_ ?_
   ·have hf:=HR.out.2.trans (FK.of_below (zAo _))
    exact⟨HR.out.1.keep (zAo _),HV.out.fk hf,hf⟩
   repeat
    (first
     |(refine zBq (v:=?_) ?_ ?_ ?_;rotate_left;(· rfl);(· (intro W hW;go_simp<;>rfl)))
     |(refine zAm ?_ ?_ (fun W hW=>HJ.out W hW) ?_;(· rfl);(· (intro W hW;go_simp<;>rfl))))
    simp only[Act.put,yB,yC,yD]
   refine zCg ?_;intro wq hS;change wpList _ _ _ (_ :: []) _ _;have HS:=hid hS;clear hS HJ;go_wp2_with fail;have hsq:g<wq.heap.size:=by have:=HS.out.2.2.size;omega
   refine(zIs holdsT HS.out.1 (joinW ws) (by rw[yA,zLw];omega) (Nat.le_of_lt hsq)).mono ?_;rintro e w1 ⟨rfl,h1,k1⟩;have H1:=hid (And.intro h1.x (HS.out.2.2.trans k1));clear h1 k1 HS;go_wp2_with fail;have hs1:g<w1.heap.size:=by have:=H1.out.2.size;omega
   refine(zIs holdsT H1.out.1 en (by rw[yA,yA,zLw];omega) (Nat.le_of_lt hs1)).mono ?_;rintro e w2 ⟨rfl,h2,k2⟩;have H2:=hid (And.intro h2.x (H1.out.2.trans k2));clear h2 k2 H1;go_wp2_with fail;have hs2:g<w2.heap.size:=by have:=H2.out.2.size;omega
   refine(bxByte_any holdsT H2.out.1 10 (by rw[yA,yA,yA,zLw];omega) (Nat.le_of_lt hs2)).mono ?_;rintro e w3 ⟨rfl,h3,k3⟩;go_wp2_with fail;go_end0;refine⟨rfl,?_,H2.out.2.trans k3⟩;have:=h3.x;simpa only[lineW,yE] using this
theorem TX.lt{g d:Nat}{s:List UInt8}{w:World}(h:TX g d s w):g<w.heap.size:=by obtain⟨p,u,_,hc,_⟩:=h;exact zBj hc
theorem TX.depth{g d:Nat}{s:List UInt8}{w:World}(h:TX g d s w):w.cell? ⟨g,2,none⟩=some (.int .i64 d)∧w.frozen? ⟨g,2,none⟩=false:=by
 obtain⟨p,u,_,hc,_⟩:=h;exact⟨by rw[hc.cell];rfl,hc.frz 2⟩
theorem TX.deep{g d:Nat}{s:List UInt8}{w:World}(h:TX g d s w)(n:Nat):TX g n s (w.setCell ⟨g,2,none⟩ (.int .i64 n)):=by
 obtain⟨p,u,hp,hc,ho⟩:=h;exact⟨p,u,hp,by simpa using hc.set 2 (.int .i64 n),row_set hc ho (by decide)⟩
def TP(g d' : Nat)(s l:List UInt8)(w:World)(e:Ending)(w' : World):Prop:=e=.returned (.tuple #[])∧TX g d' (s++l) w' ∧ FK g w w'
section
variable (g d : Nat) (s : List UInt8) (v : Value) (ws : List (List UInt8)) (w : World)
theorem put_any(h:TX g d s w)(hv:SlS g v ws w)(hn:ws.length≤1000)(hl:s.length+(lineW d ws [59]).length≤140737488355328) :
  Calls Tryz.prog 28 #[.pointer (some ⟨g,0,none⟩),v] w (TP g d s (lineW d ws [59]) w):=by
 have H:=hid (line_any g d s [59] v ws w h hv hn hl);clear h hv hl;go_enter Tryz.func28,Tryz.ntmps28;go_wp2_with fail;refine H.out.mono ?_;rintro e w1 ⟨rfl,h1,k1⟩;have R:=hid (And.intro h1 k1);clear h1 k1;go_wp2_with fail;go_end0;exact⟨rfl,R.out⟩
theorem open_any(h:TX g d s w)(hv:SlS g v ws w)(hn:ws.length≤1000)(hl:s.length+(lineW d ws [32,123]).length≤140737488355328) :
  Calls Tryz.prog 27 #[.pointer (some ⟨g,0,none⟩),v] w (TP g (d+1) s (lineW d ws [32,123]) w):=by
 have H:=hid (line_any g d s [32,123] v ws w h hv hn hl)
 have hd:IntKind.i64.wrap ((d:Int)+1)=((d+1:Nat):Int):=by
  rw[zKr]at hl;simp[IntKind.wrap,IntKind.signed,IntKind.bits];omega
 clear h hv hl;go_enter Tryz.func27,Tryz.ntmps27;go_wp2_with fail;refine H.out.mono ?_;rintro e w1 ⟨rfl,h1,k1⟩;obtain⟨c2,f2⟩:=h1.depth;have R:=hid (And.intro (h1.deep (d+1)) (k1.trans (FK.set w1 g 2 (.int .i64 ((d+1:Nat):Int)))));clear h1 k1;go_wp2_with fail;go_end0;exact⟨rfl,R.out⟩
theorem close_any(h:TX g (d+1) s w)(hl:s.length+(lineW d [] [125]).length≤140737488355328) :
  Calls Tryz.prog 30 #[.pointer (some ⟨g,0,none⟩)] w (TP g d s (lineW d [] [125]) w):=by
 obtain⟨c2,f2⟩:=h.depth
 have hd:IntKind.i64.wrap (((d+1:Nat):Int) - 1)=(d:Int):=by
  rw[zKr]at hl;simp[IntKind.wrap,IntKind.signed,IntKind.bits];omega
 have hd6:wrap64 (d:Int)=(d:Int):=by
  rw[zKr]at hl;exact IntWalk.wrap64_in _ ⟨by omega,by omega⟩
 have H:=hid (line_any g d s [125] (.slice none 0 0) [] _ (h.deep d) (.inl ⟨rfl,rfl⟩) (by simp) hl);clear h hl;go_enter Tryz.func30,Tryz.ntmps30;go_wp2_with fail;refine H.out.mono ?_;rintro e w1 ⟨rfl,h1,k1⟩;have R:=hid (And.intro h1 ((FK.set w g 2 (.int .i64 (d:Int))).trans k1));clear h1 k1;go_wp2_with fail;go_end0;exact⟨rfl,R.out⟩
end
theorem zGt(d:Nat)(b:Bool)(n:Nd):textL d (optN b n)=if b then textN d n else []:=by
 cases b with
 |true=>simp only[optN,if_true,textL,yF]
 |false=>simp only[optN,Bool.false_eq_true,if_false,textL]
theorem zAn(d:Nat)(ws:List (List UInt8)):textN d (stn ws)=lineW d ws [59]:=by simp only[stn,textN]
theorem foptional_any(g d:Nat)(s a b:List UInt8)(w:World)(h:TX g d s w)(hl:s.length+(textL d (nameN a b)).length≤140737488355328) :
  Calls Tryz.prog 102 #[.pointer (some ⟨g,0,none⟩),.string (str a),.string (str b)] w (TP g d s (textL d (nameN a b)) w):=by
 cases hb:b.isEmpty with
 |true=>
  obtain rfl:=List.isEmpty_iff.1 hb;have H:=hid h;have he:(str []).toList.isEmpty=true:=by rw[zAh];rfl
  clear h hb hl;go_enter Tryz.func102,Tryz.ntmps102;go_wp2_with fail;go_end0;exact⟨rfl,by rw[show textL d (nameN a [])=[] by rw[nameN,zGt];rfl,yF];exact H.out,FK.refl _ _⟩
 |false=>
  have E:textL d (nameN a b)=lineW d [a,b] [59]:=by rw[nameN,zGt,hb];simp only[Bool.not_false,if_true,zAn]
  rw[E]at hl⊢;have hne:(str b).toList.isEmpty=false:=by rw[zAh];exact hb
  have hlt:=h.lt;have H:=hid h;have HL:=hid hl;clear h hl E hb;go_enter Tryz.func102,Tryz.ntmps102;go_wp2_with fail;have hb:=(Below.refl w.heap.size w).alloc (yI _) (.cells #[strV a,strV b] 9);refine(put_any g d s _ [a,b] _ (H.out.keep hb) (.new (by omega) (HasC.new w _ _)) (by simp) HL.out).mono ?_;rintro e w2 ⟨rfl,h2,k2⟩;have R:=hid (And.intro h2 ((FK.of_below hb).trans k2));clear h2 k2;go_wp2_with fail;go_end0;exact⟨rfl,R.out⟩
theorem itoaI(n:Int)(h0:0≤n)(h1:n≤16777215)(w:World)(he:Env w):Calls Tryz.prog 100 #[.int .i64 n] w fun e w' => e=.returned (.string (str (decI n)))∧Below w.heap.size w w' := by
 refine(Tryz.strconv_Itoa n (by omega) (by omega) w he.2.1).mono ?_;rintro e w' ⟨rfl,k,os,rfl⟩;refine⟨?_,?_⟩
 ·rw[show Lib.itoa n=decI n from by unfold Lib.itoa decI;rw[if_neg (by omega),dec_lib]]
  rfl
 ·exact⟨rfl,rfl,rfl,by simp[Sort.grow,World.drewN],fun j hj=>Sort.heap_grow_old (w.drewN k) os hj⟩
theorem zCc(n:Int)(h0:0≤n)(h1:n≤16777215)(w:World)(he:Env w):Calls Tryz.prog 29 #[.int .i64 n] w fun e w' => e=.returned (.string (str (decI n)))∧Below w.heap.size w w' := by
 have H:=hid (itoaI n h0 h1 w he);clear he;go_enter Tryz.func29,Tryz.ntmps29;go_wp2_with fail;refine H.out.mono ?_;rintro e w1 ⟨rfl,hb⟩;have R:=hid hb;clear hb;go_wp2;go_ret;exact⟨rfl,R.out⟩
theorem fprot_any(n:Int)(h0:0≤n)(h1:n≤16777215)(w:World)(he:Env w):Calls Tryz.prog 107 #[.int .i64 n] w fun e w' => e=.returned (.string (str (protW n)))∧Below w.heap.size w w' := by
 by_cases h6:n=6
 ·subst h6
  go_enter Tryz.func107,Tryz.ntmps107;go_wp2;go_ret;exact⟨rfl,Below.refl _ _⟩
 by_cases h7:n=17
 ·subst h7
  go_enter Tryz.func107,Tryz.ntmps107;go_wp2;go_ret;exact⟨rfl,Below.refl _ _⟩
 have e6:(n==6)=false:=by simpa using h6
 have e7:(n==17)=false:=by simpa using h7
 have E:protW n=decI n:=by unfold protW;rw[if_neg (by simpa using h6),if_neg (by simpa using h7)]
 have H:=hid (zCc n h0 h1 w he);rw[E];clear he E h6 h7;go_enter Tryz.func107,Tryz.ntmps107;go_wp2_with fail;refine H.out.mono ?_;rintro e w1 ⟨rfl,hb⟩;have R:=hid hb;clear hb;go_wp2;go_ret;exact⟨rfl,R.out⟩
end Go.Proofs.YtdlgnhefpoalnaaGreatDoor
