/- The walks of Parse and of the reference's Address. Conditions: the text has at most 10^9 bytes; the world holds Go's own tables (Env). -/
import Derived.Test.YthcnojmldldpeaaGreatDoorGg
import Derived.Test.YthcnojmldldpeaaGreatDoorGh
import Derived.Test.YthcnojmldldpeaaGreatDoorGi
namespace Go.Proofs.YthcnojmldldpeaaGreatDoor
open Lib (hid)
open Go.RowKit
theorem Tryz.gPow:Tryz.prog.globalNamed "internal/strconv.uint64pow10" = some 0:=by kernel_rfl
def Env(w:World):Prop:=(∃m,w.cell? ⟨3,0,none⟩=some (.int .i64 m))∧Lib.TabIs Tryz.prog w "internal/strconv.uint64pow10" .u64 Lib.pow10Tab∧3<w.heap.size∧0<w.heap.size
theorem Env.below{w w' : World}(h:Env w)(hb:Below w.heap.size w w'):Env w' := by
 obtain⟨⟨m,hm⟩,ht,h1,h2⟩:=h;refine⟨⟨m,?_⟩,var?_below hb Tryz.gPow h2 ht,Nat.lt_of_lt_of_le h1 hb.size,Nat.lt_of_lt_of_le h2 hb.size⟩;rw[hb.cell (p:=⟨3,0,none⟩) h1];exact hm
theorem splitDot_any(s:ByteArray)(w:World)(he:Env w)(hs:s.size≤1000000000):Calls Tryz.prog 276 #[.string s,.string ⟨#[46]⟩] w fun e w' =>
  e=.returned (.slice (some ⟨w.heap.size,0,none⟩) (dots (bytes s)).length (dots (bytes s)).length)∧w.alloc (.cells ((dots (bytes s)).map strV).toArray 9)=w' := by
 obtain⟨⟨m,hm⟩,_⟩:=he;refine(Tryz.strings_Split s ⟨#[46]⟩ m w (by omega) hm (by decide)).mono ?_;rintro e w' ⟨rfl,rfl⟩;have e1:Lib.countB s ⟨#[46]⟩+1=(dots (bytes s)).length:=count_dots (bytes s)
 have e2:(Lib.splitB ⟨#[46]⟩ 0 (Lib.countB s ⟨#[46]⟩) s).map Value.string=(dots (bytes s)).map strV:=by
  have h:=Lib.splitB_data ⟨#[46]⟩ 0 (Lib.countB s ⟨#[46]⟩) s;have h2:Lib.splitK [46] 0 (Lib.count (bytes s) [46]) (bytes s)=dots (bytes s):=split_dots _ _ (Nat.le_refl _);have h3:(Lib.splitB ⟨#[46]⟩ 0 (Lib.countB s ⟨#[46]⟩) s).map bytes=dots (bytes s):=h.trans h2;rw[←h3,List.map_map];apply List.map_congr_left;intro x _;show Value.string x=.string (str (bytes x));rw[str_bytes]
 rw[e1,e2];exact⟨rfl,rfl⟩
def ParsePost(o:Option Nat)(w:World)(e:Ending)(w' : World):Prop:=e=.returned (.tuple #[.int .u32 ((o.getD 0:Nat):Int),.bool o.isSome])∧Below w.heap.size w w'
theorem zHo{o:Option Nat}{w w' : World}(h:o=none)(hb:Below w.heap.size w w'):ParsePost o w (.returned (.tuple #[.int .u32 0,.bool false])) w' := by
 subst h;exact⟨rfl,hb⟩
theorem parsePost_some{o:Option Nat}{a:Nat}{w w' : World}(h:o=some a)(hb:Below w.heap.size w w'):ParsePost o w (.returned (.tuple #[.int .u32 (a:Int),.bool true])) w' := by
 subst h;exact⟨rfl,hb⟩
theorem octs_no{p:List UInt8}{r:List (List UInt8)}{a:Nat}(h:numIn p 0 255=none):octs (p :: r) a=none:=by simp only[octs,h]
theorem octs_yes{p:List UInt8}{r:List (List UInt8)}{a v:Nat}(h:numIn p 0 255=some (v:Int)):octs (p :: r) a=octs r (oct a v):=by simp only[octs,h,Int.toNat_natCast]
theorem num_255(l:List UInt8):numIn l 0 255=none∨∃v:Nat,numIn l 0 255=some (v:Int)∧v≤255:=by
 cases h:numIn l 0 255 with
 |none=>exact .inl rfl
 |some v=>
  have:=numIn_bd h;exact .inr ⟨v.toNat,by congr 1;omega,by omega⟩
theorem number_none{s:ByteArray}{lo hi:Int}(h:numIn (bytes s) lo hi=none)(w:World):Calls Tryz.prog 212 #[.string s,.int .i64 lo,.int .i64 hi] w fun e w' => e=.returned (.tuple #[.int .i64 0,.bool false])∧w=w' := by
 refine(zJk s lo hi w).mono ?_;rw[h];rintro e w' ⟨rfl,rfl⟩;exact⟨rfl,rfl⟩
theorem number_some{s:ByteArray}{lo hi v:Int}(h:numIn (bytes s) lo hi=some v)(w:World):Calls Tryz.prog 212 #[.string s,.int .i64 lo,.int .i64 hi] w fun e w' => e=.returned (.tuple #[.int .i64 v,.bool true])∧w=w' := by
 refine(zJk s lo hi w).mono ?_;rw[h];rintro e w' ⟨rfl,rfl⟩;exact⟨rfl,rfl⟩
set_option maxRecDepth 4000 in
set_option maxHeartbeats 1000000 in
theorem parse_any(s:ByteArray)(w:World)(he:Env w)(hs:s.size≤1000000000):Calls Tryz.prog 258 #[.string s] w (ParsePost (zDa (bytes s)) w):=by
 have HC:=hid (splitDot_any s w he hs)
 have hcell:∀k (h:k<(dots (bytes s)).length),(w.alloc (.cells ((dots (bytes s)).map strV).toArray 9)).cell? ⟨w.heap.size,k,none⟩=some (.string (str (dots (bytes s))[k])):=fun k h=>by
  rw[zDf];simp[h,strV]
 have HCell:=hid hcell;have hbw:Below w.heap.size w (w.alloc (.cells ((dots (bytes s)).map strV).toArray 9)):=(Below.refl _ _).alloc (Nat.le_refl _) _;have HB:=hid hbw;have HP:Hid (zDa (bytes s)=if(dots (bytes s)).length=4 then octs (dots (bytes s)) 0 else none):=hid rfl;clear he hcell hbw;generalize dots (bytes s)=ps at *;generalize hw1:w.alloc (.cells (ps.map strV).toArray 9)=w1 at *;clear hw1;by_cases h4:ps.length=4
 ·have HN:Hid (zDa (bytes s)=octs (ps.drop 0) 0):=hid (by rw[HP.out,if_pos h4,List.drop_zero])
  rw[h4]at HC;have H4:=hid h4;clear h4 HP;go_enter Tryz.func258,Tryz.ntmps258;go_wp2_with fail;refine HC.out.mono ?_;rintro e w' ⟨rfl,rfl⟩;go_wp2;go_loopg [5,17] 4 (fun g v i wr=>∃k a:Nat,k+g=4∧a<4294967296∧i=.int .i64 k∧v=.int .u32 (a:Int)∧wr=w1∧Hid (zDa (bytes s)=octs (ps.drop k) a));case atStart=>exact⟨0,0,by omega,by omega,rfl,rfl,rfl,HN⟩
  case round=>
   obtain⟨k,a,hk,ha,rfl,rfl,ew,H⟩:=hrel;subst ew;by_cases hlt:k<4
   ·have hl:k<ps.length:=by rw[H4.out];exact hlt
    have c1:=HCell.out k hl;have HD:=hid (list_step ps k hl);generalize ps[k]=p at c1 HD;clear hl;rcases num_255 p with hn|⟨v,hn,hv⟩
    ·have HF:Hid (zDa (bytes s)=none):=hid (by rw[H.out,HD.out,octs_no hn])
     have HNN:=hid hn;clear hn;go_wp2_with (first|(go_at_call 212;refine(number_none (s:=str p) (by rw[zBq];exact HNN.out) _).mono ?_;rintro e w' ⟨rfl,rfl⟩));go_ret2;exact zHo HF.out HB.out
    ·have HF:Hid (zDa (bytes s)=octs (ps.drop (k+1)) (oct a v)):=hid (by rw[H.out,HD.out,octs_yes hn])
     have HNN:=hid hn;have E:=i_oct ha hv;have ho:=oct_lt (a:=a) hv;clear hn;go_wp2_with (first|(go_at_call 212;refine(number_some (s:=str p) (v:=(v:Int)) (by rw[zBq];exact HNN.out) _).mono ?_;rintro e w' ⟨rfl,rfl⟩));go_roundg (4 - (k+1));case measure=>omega
     case rel=>exact⟨k+1,oct a v,by omega,ho,by go_num,rfl,rfl,HF⟩
   ·have HF:Hid (zDa (bytes s)=some a):=hid (by rw[H.out,List.drop_eq_nil_of_le (by rw[H4.out];omega)];rfl)
    go_wp2_with fail;go_ret2;exact parsePost_some HF.out HB.out
 ·have HN:Hid (zDa (bytes s)=none):=hid (by rw[HP.out,if_neg h4])
  have d:((ps.length:Int) != 4)=true:=by simp;omega
  go_enter Tryz.func258,Tryz.ntmps258;go_wp2_with fail;refine HC.out.mono ?_;rintro e w' ⟨rfl,rfl⟩;go_wp2_with fail;go_ret2;exact zHo HN.out HB.out
end Go.Proofs.YthcnojmldldpeaaGreatDoor
