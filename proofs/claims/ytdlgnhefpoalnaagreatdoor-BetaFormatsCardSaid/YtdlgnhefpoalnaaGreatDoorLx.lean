/- The walk of Tokens, the program's and the reference's. No condition. -/
import Derived.Test.YtdlgnhefpoalnaaGreatDoorLw
import Derived.Deep.LoopGhost
set_option maxHeartbeats 2000000
namespace Go.Proofs.YtdlgnhefpoalnaaGreatDoor
open Lib (hid)
open Go.RowKit
theorem Tryz.tokInfo:(Tryz.prog.info? 65).map (fun i=>(i.zero,i.size,i.bytes))=some (some (.agg #[.int .i64 0,.string ByteArray.empty]),2,24):=by kernel_rfl
def zDo(t:Int × List UInt8):List Value:=[.int .i64 t.1,strV t.2]
def tokRes(l:List UInt8):List (Int × List UInt8):=if zBr l=0 then zDq l else []
def TokPost(l:List UInt8)(w:World)(e:Ending)(w' : World):Prop :=
 ∃v,e=.returned (.tuple #[v,.int .i64 (zFu l).length,.int .i64 (zBr l)])∧w'.ownsRow w.heap.size 65 2 v (tokRes l).length ((tokRes l).flatMap zDo)∧Below w.heap.size w w'
theorem tokGo_len:∀(l cur:List UInt8),(tokGo cur l).length≤l.length+(if cur=[]then 0 else 1):=by
 intro l;induction l with
 |nil=>intro cur;simp only[tokGo,flush];split<;>simp
 |cons b r ih=>
  intro cur;have h1:=ih [];have h2:=ih (cur++[b]);rw[if_pos rfl]at h1;rw[if_neg (by simp)]at h2;have hf:(flush cur).length≤(if cur=[]then 0 else 1):=by unfold flush;split<;>simp
  simp only[tokGo];split
  ·simp;omega
  ·split
   ·simp;omega
   ·split
    ·simp;omega
    ·simp;omega
theorem toksFrom_len:∀(ls:List (List UInt8)) (n:Int),(zEo n ls).length≤(ls.map List.length).sum:=by
 intro ls;induction ls with
 |nil=>intro n;simp[zEo]
 |cons l r ih=>
  intro n;have h1:=tokGo_len l [];have h2:=ih (n+1);rw[if_pos rfl]at h1;simp only[zEo,yA,List.length_map,List.map_cons,List.sum_cons,tokLine];omega
theorem linesGo_sum:∀(l cur:List UInt8),((zEg cur l).map List.length).sum≤cur.length+l.length:=by
 intro l;induction l with
 |nil=>intro cur;simp only[zEg,flush];split<;>simp
 |cons b r ih=>
  intro cur;simp only[zEg];split
  ·have:=ih [];simp at this⊢;omega
  ·have:=ih (cur++[b]);simp at this⊢;omega
theorem le_sum_mem(l:List Nat):∀x∈l,x≤l.sum:=by
 induction l with
 |nil=>intro x hx;cases hx
 |cons a r ih=>
  intro x hx;rw[List.sum_cons];rcases List.mem_cons.1 hx with rfl|h
  ·omega
  ·have:=ih x h;omega
theorem lines_each(l:List UInt8):∀z∈zCs l,z.length≤l.length:=by
 intro z hz;have h:=linesGo_sum l [];have h2:z.length≤((zCs l).map List.length).sum:=le_sum_mem _ _ (List.mem_map_of_mem hz);unfold zCs at h2;simp at h;omega
theorem toks_len(l:List UInt8):(zDq l).length≤l.length:=by
 have h1:=toksFrom_len (zCs l) 1;have h2:=linesGo_sum l [];unfold zDq zCs at *;simp at h2;omega
def zEa(n:Int)(cur rest:List UInt8)(more:List (List UInt8)):List (Int × List UInt8):=(tokGo cur rest).map (fun t=>(n,t))++zEo (n+1) more
theorem tok_end(n:Int)(s:ByteArray)(k:Nat)(r:List (List UInt8))(h:¬k<s.size):zEa n [] ((bytes s).drop k) r=zEo (n+1) r:=by
 rw[zHf s k h];simp[zEa,tokGo,flush]
theorem tok_hash(n:Int)(s:ByteArray)(k:Nat)(r:List (List UInt8))(h:k<s.size)(hc:((s[k].toNat:Int)==35)=true):zEa n [] ((bytes s).drop k) r=zEo (n+1) r:=by
 rw[zCq s k h,zEa,tokGo,if_pos (by simpa using hc)];simp[flush]
theorem tok_blank(n:Int)(s:ByteArray)(k:Nat)(r:List (List UInt8))(h:k<s.size)(hc:((s[k].toNat:Int)==35)=false)(hb:zIu s[k].toNat=true) :
  zEa n [] ((bytes s).drop k) r=zEa n [] ((bytes s).drop (k+1)) r:=by
 rw[zCq s k h,zEa,tokGo,if_neg (by simpa using hc),if_pos hb];simp[flush,zEa]
theorem tok_mark(n:Int)(s:ByteArray)(k:Nat)(r:List (List UInt8))(h:k<s.size)(hc:((s[k].toNat:Int)==35)=false)(hb:zIu s[k].toNat=false)(hm:markB s[k].toNat=true) :
  zEa n [] ((bytes s).drop k) r=(n,sub (bytes s) k (k+1)) :: zEa n [] ((bytes s).drop (k+1)) r:=by
 rw[sub_snoc s k k (yI _) h,sub_self,zCq s k h,zEa,tokGo,if_neg (by simpa using hc),if_neg (by simp[hb]),if_pos hm];simp[flush,zEa]
theorem tok_word(n:Int)(s:ByteArray)(a k:Nat)(r:List (List UInt8))(ha:a≤k)(h:k<s.size)(hw:wordB s[k].toNat=true) :
  zEa n (sub (bytes s) a k) ((bytes s).drop k) r=zEa n (sub (bytes s) a (k+1)) ((bytes s).drop (k+1)) r:=by
 simp only[wordB,Bool.and_eq_true,Bool.not_eq_true']at hw;rw[sub_snoc s a k ha h,zCq s k h,zEa,tokGo,if_neg (by simpa using hw.2),if_neg (by simp[hw.1.1]),if_neg (by simp[hw.1.2])];rfl
theorem tok_stop(n:Int)(s:ByteArray)(a k:Nat)(r:List (List UInt8))(ha:a<k)(h:k<s.size)(hw:wordB s[k].toNat=false) :
  zEa n (sub (bytes s) a k) ((bytes s).drop k) r=(n,sub (bytes s) a k) :: zEa n [] ((bytes s).drop k) r:=by
 have hl:=sub_len (bytes s) a k (by rw[zBz];omega);have hne:sub (bytes s) a k≠[]:=by intro e;rw[e]at hl;simp at hl;omega
 have hf:flush (sub (bytes s) a k)=[sub (bytes s) a k]:=by unfold flush;rw[if_neg hne]
 rw[zCq s k h];simp only[zEa,tokGo,hf];by_cases h1:(s[k].toNat:Int)=35
 ·simp[h1,flush]
 ·simp only[if_neg h1]
  cases hb:zIu s[k].toNat with
  |true=>simp[flush]
  |false=>
   cases hm:markB s[k].toNat with
   |true=>simp[flush]
   |false=>simp[wordB,hb,hm,h1]at hw
theorem tok_last(n:Int)(s:ByteArray)(a k:Nat)(r:List (List UInt8))(ha:a<k)(h:k=s.size) :
  zEa n (sub (bytes s) a k) ((bytes s).drop k) r=(n,sub (bytes s) a k) :: zEa n [] ((bytes s).drop k) r:=by
 have hl:=sub_len (bytes s) a k (by rw[zBz];omega);have hne:sub (bytes s) a k≠[]:=by intro e;rw[e]at hl;simp at hl;omega
 rw[zHf s k (by omega)];simp[zEa,tokGo,flush,hne]
theorem word_else{c:Int}(h0:(c==35)=false)(hb:zIu c=false)(hm:markB c=false):wordB c=true:=by simp[wordB,h0,hb,hm]
theorem base_mono{w:World}{base base' : Nat}{e:TypeId}{size n:Nat}{v:Value}{xs:List Value}(h:w.ownsRow base e size v n xs)(hb:base' ≤ base):w.ownsRow base' e size v n xs:=by
 obtain⟨hl,h⟩:=h;refine⟨hl,?_⟩;rcases h with h|⟨g,cap,cur,h1,h2,h3⟩
 ·exact .inl h
 ·exact .inr ⟨g,cap,cur,h1,by omega,h3⟩
theorem tok_snoc(xs:List (Int × List UInt8))(n:Int)(s:ByteArray)(a k:Nat):xs.flatMap zDo++#[Value.int .i64 n,.string (s.extract a k)].toList=(xs++[(n,sub (bytes s) a k)]).flatMap zDo:=by
 rw[ext_v];simp[zDo]
theorem one_tok(n:Int)(s:ByteArray):∀u∈(#[Value.int .i64 n,.string s]:Array Value).toList,u.oneCell' = true:=by
 intro u hu;simp at hu;rcases hu with rfl|rfl<;>rfl
theorem tokPost_bad{l:List UInt8}{k:Int}(h:zBr l=k)(hk:k≠0){w w' : World}(hb:Below w.heap.size w w'):TokPost l w (.returned (.tuple #[.slice none 0 0,.int .i64 0,.int .i64 k])) w' := by
 refine⟨.slice none 0 0,?_,?_,hb⟩
 ·unfold zFu;rw[h,if_neg hk];rfl
 ·unfold tokRes;rw[h,if_neg hk];exact World.ownsRow_nil _ _ _ _
theorem tokens_bad(s:ByteArray)(w:World)(k:Int)(h:zBr (bytes s)=k)(hk:(k != 0)=true):Calls Tryz.prog 19 #[.string s] w (TokPost (bytes s) w):=by
 have H:=hid h;clear h;go_enter Tryz.func19,Tryz.ntmps19;go_wp2_with fail
 go_step3
 go_wp2_with fail;refine(lines_known s w k _ H.out rfl).mono ?_;rintro e w1 ⟨v1,rfl,ho1,hb1⟩;go_wp2_with fail;rw[Exit.noGoto_ret];go_ret3;exact tokPost_bad H.out (by simpa using hk) hb1
theorem tokens_ok(s:ByteArray)(w:World)(h:zBr (bytes s)=0)(hs:s.size≤65536):Calls Tryz.prog 19 #[.string s] w (TokPost (bytes s) w):=by
 obtain⟨i0,hi0,hz0,hz1,hz2⟩:=info_parts Tryz.tokInfo;have Hi0:=hid hi0;have Hz0:=hid hz0;have Hz1:=hid hz1;have Hz2:=hid hz2;clear hi0 hz0 hz1 hz2;have H:=hid h;have HR:Hid (zFu (bytes s)=zCs (bytes s)):=hid (by unfold zFu;rw[if_pos h]);have hT:=toks_len (bytes s);rw[zBz]at hT;have HT:Hid (zDq (bytes s)=zEo 1 (zCs (bytes s))):=hid rfl;have HE:Hid (tokRes (bytes s)=zDq (bytes s)):=hid (by unfold tokRes;rw[if_pos h]);have hln:(zCs (bytes s)).length≤65537:=by have:=lines_count s;omega
 have HLn:Hid (∀z∈zCs (bytes s),z.length≤65536):=hid (fun z hz=>by have:=lines_each _ z hz;rw[zBz]at this;omega);clear h;go_enter Tryz.func19,Tryz.ntmps19;go_wp2_with fail
 go_step3
 go_wp2_with fail;refine(lines_known s w 0 _ H.out HR.out).mono ?_;rintro e w1 ⟨v1,rfl,ho1,hb1⟩;have hsz:=hb1.size;have S1:=Slc.of_own ho1;clear ho1;generalize zCs (bytes s)=ls at *;generalize zDq (bytes s)=T at *;obtain⟨A,c,ev⟩:=slc_form S1;subst ev;have HS:=hid S1;clear S1;go_wp2_with fail
 go_step3
 go_wp2;go_loopg [7,23] ls.length (fun g v i wr=>∃(k:Nat) (acc:List (Int × List UInt8)),k+g=ls.length∧i=.int .i64 k∧wr.ownsRow w1.heap.size 65 2 v acc.length (acc.flatMap zDo)∧Below w1.heap.size w1 wr∧Hid (T=acc++zEo (k+1) (ls.drop k)));case atStart=>exact⟨0,[],by omega,rfl,World.ownsRow_nil _ _ _ _,Below.refl _ _,hid (by rw[HT.out];rfl)⟩
 case round=>
  obtain⟨k,acc,hk,rfl,hown,hbx,HI⟩:=hrel;by_cases hlt:k<ls.length
  ·obtain⟨ga,oa,eA,hga,c1⟩:=slc_at HS.out rfl hlt
   have HD:=hid (list_step ls k hlt);have hzl:ls[k].length≤65536:=HLn.out _ (List.getElem_mem hlt);generalize ls[k]=z at c1 HD hzl;obtain⟨t,rfl⟩:∃t:ByteArray,bytes t=z:=⟨str z,zBk z⟩;unfold strV at c1;rw[str_bytes]at c1;rw[zBz]at hzl;have c2:wr.cell? ⟨ga,oa+k,none⟩=some (.string t):=(hbx.cell (p:=⟨ga,oa+k,none⟩) hga).trans c1;subst eA;have HI2:Hid (T=acc++zEa (k+1) [] ((bytes t).drop 0) (ls.drop (k+1))):=hid (by rw[HI.out,HD.out,List.drop_zero];rfl);clear HI c1 HD;go_wp2_with fail;obtain⟨wo,rfl⟩:∃wo:World,wo=wr:=⟨_,rfl⟩;have hbo:=hbx;clear hbx;go_loopg [7,10] t.size (fun g v i wr=>∃(m:Nat) (acc:List (Int × List UInt8)),m+g=t.size∧i=.int .i64 m∧wr.ownsRow w1.heap.size 65 2 v acc.length (acc.flatMap zDo)∧Below w1.heap.size w1 wr∧Hid (T=acc++zEa (k+1) [] ((bytes t).drop m) (ls.drop (k+1))));case atStart=>exact⟨0,acc,by omega,rfl,hown,hbo,HI2⟩
   case round=>
    clear hown HI2 hbo c2;clear acc;obtain⟨m,acc,hm,rfl,hown,hbx,HI⟩:=hrel;have hbz:=hbx.size;by_cases hlt2:m<t.size
    ·cases h35:((t[m].toNat:Int)==35)with
     |true=>
      have E:=hid (tok_hash (k+1) t m (ls.drop (k+1)) hlt2 h35);go_wp2;go_roundg (ls.length - (k+1));case measure=>omega
      case rel=>exact⟨k+1,acc,by omega,by go_num,hown,hbx,hid (by rw[HI.out,E.out];rfl)⟩
     |false=>
      cases hbl:zIu t[m].toNat with
      |true=>
       have E:=hid (tok_blank (k+1) t m (ls.drop (k+1)) hlt2 h35 hbl);go_wp2_with (first|(go_at_call 63;refine(zHo _ _).mono ?_;rintro e w' ⟨rfl,rfl⟩));go_roundg (t.size - (m+1));case measure=>omega
       case rel=>exact⟨m+1,acc,by omega,by go_num,hown,hbx,hid (by rw[HI.out,E.out])⟩
      |false=>
       have hal:acc.length≤T.length:=by rw[HI.out,yA];omega
       cases hmk:markB t[m].toNat with
       |true=>
        have E:=hid (tok_mark (k+1) t m (ls.drop (k+1)) hlt2 h35 hbl hmk);go_wp2_with (first|(go_at_call 63;refine(zHo _ _).mono ?_;rintro e w' ⟨rfl,rfl⟩)|(go_at_call 64;refine(zLf _ _).mono ?_;rintro e w' ⟨rfl,rfl⟩)|(at_builtin;refine zCv _ rfl _ _ 57 rfl w1.heap.size 65 i0 _ 2 24 Tryz.underlying57 Hi0.out Hz0.out Hz1.out Hz2.out rfl (by decide) _ acc.length (acc.flatMap zDo) rfl hown #[.int .i64 (k+1),.string (t.extract m (m+1))] rfl rfl (one_tok _ _) (by omega) (by decide) hbz ?_;intro v2 w2 hown2 hb2));go_roundg (t.size - (m+1));case measure=>omega
        case rel=>exact⟨m+1,acc++[((k:Int)+1,sub (bytes t) m (m+1))],by omega,by go_num,by rw[tok_snoc]at hown2;simpa using hown2,hbx.trans hb2,hid (app1 (by rw[HI.out,E.out]))⟩
       |false=>
        have hwd:=word_else h35 hbl hmk;have HI0:Hid (T=acc++zEa (k+1) (sub (bytes t) m m) ((bytes t).drop m) (ls.drop (k+1))):=hid (by rw[HI.out,sub_self]);clear HI;go_wp2_with (first|(go_at_call 63;refine(zHo _ _).mono ?_;rintro e w' ⟨rfl,rfl⟩)|(go_at_call 64;refine(zLf _ _).mono ?_;rintro e w' ⟨rfl,rfl⟩));obtain⟨wp,rfl⟩:∃wp:World,wp=wr:=⟨_,rfl⟩;go_loopg [10] (t.size - m) (fun g i wr=>∃j:Nat,j+g=t.size∧m≤j∧i=.int .i64 j∧wr=wp∧Hid (j=m→wordB t[m].toNat=true)∧Hid (T=acc++zEa (k+1) (sub (bytes t) m j) ((bytes t).drop j) (ls.drop (k+1))));case atStart=>exact⟨m,by omega,by omega,rfl,rfl,hid (fun _=>hwd),HI0⟩
        case round=>
         obtain⟨j,hj,hmj,rfl,ew,HJ,HI⟩:=hrel;subst ew;by_cases hlt3:j<t.size
         ·cases hw:wordB t[j].toNat with
          |true=>
           have E:=hid (tok_word (k+1) t m j (ls.drop (k+1)) hmj hlt3 hw);go_wp2_with (first|(go_at_call 65;refine(inWord_any _ _).mono ?_;rintro e w' ⟨rfl,rfl⟩));go_roundg (t.size - (j+1));case measure=>omega
           case rel=>exact⟨j+1,by omega,by omega,by go_num,rfl,hid (fun h=>by omega),hid (by rw[HI.out,E.out])⟩
          |false=>
           have hjm:m<j:=by
            rcases Nat.lt_or_ge m j with h|h
            ·exact h
            ·have e:j=m:=by omega
             have:=HJ.out e;subst e;rw[hw]at this;cases this
           have E:=hid (tok_stop (k+1) t m j (ls.drop (k+1)) hjm hlt3 hw);go_wp2_with (first|(go_at_call 65;refine(inWord_any _ _).mono ?_;rintro e w' ⟨rfl,rfl⟩)|(at_builtin;refine zCv _ rfl _ _ 57 rfl w1.heap.size 65 i0 _ 2 24 Tryz.underlying57 Hi0.out Hz0.out Hz1.out Hz2.out rfl (by decide) _ acc.length (acc.flatMap zDo) rfl hown #[.int .i64 (k+1),.string (t.extract m j)] rfl rfl (one_tok _ _) (by omega) (by decide) hbz ?_;intro v2 w2 hown2 hb2));go_roundg (t.size - j);case measure=>omega
           case rel=>exact⟨j,acc++[((k:Int)+1,sub (bytes t) m j)],by omega,rfl,by rw[tok_snoc]at hown2;simpa using hown2,hbx.trans hb2,hid (app1 (by rw[HI.out,E.out]))⟩
         ·have hjm:m<j:=by omega
          have E:=hid (tok_last (k+1) t m j (ls.drop (k+1)) hjm (by omega));go_wp2_with (first|(at_builtin;refine zCv _ rfl _ _ 57 rfl w1.heap.size 65 i0 _ 2 24 Tryz.underlying57 Hi0.out Hz0.out Hz1.out Hz2.out rfl (by decide) _ acc.length (acc.flatMap zDo) rfl hown #[.int .i64 (k+1),.string (t.extract m j)] rfl rfl (one_tok _ _) (by omega) (by decide) hbz ?_;intro v2 w2 hown2 hb2));go_roundg (t.size - j);case measure=>omega
          case rel=>exact⟨j,acc++[((k:Int)+1,sub (bytes t) m j)],by omega,rfl,by rw[tok_snoc]at hown2;simpa using hown2,hbx.trans hb2,hid (app1 (by rw[HI.out,E.out]))⟩
    ·have E:=hid (tok_end (k+1) t m (ls.drop (k+1)) hlt2)
     go_wp2;go_roundg (ls.length - (k+1));case measure=>omega
     case rel=>exact⟨k+1,acc,by omega,by go_num,hown,hbx,hid (by rw[HI.out,E.out];rfl)⟩
  ·have HF:Hid (tokRes (bytes s)=acc):=hid (by rw[HE.out,HI.out,List.drop_eq_nil_of_le (by omega)];simp[zEo])
   go_wp2_with fail;rw[Exit.noGoto_ret];go_ret3;refine⟨_,by rw[H.out,HR.out];rfl,?_,hb1.trans (hbx.mono hsz)⟩;rw[HF.out];exact base_mono hown hsz
theorem small_of_ok{s:ByteArray}(h:zBr (bytes s)=0):s.size≤65536:=by
 unfold zBr at h;rw[zBz]at h;by_cases hs:65536<s.size
 ·rw[if_pos hs]at h;cases h
 ·omega
theorem tokens_any(s:ByteArray)(w:World):Calls Tryz.prog 19 #[.string s] w (TokPost (bytes s) w):=by
 by_cases h:zBr (bytes s)=0
 ·exact tokens_ok s w h (small_of_ok h)
 ·exact tokens_bad s w _ rfl (by simpa using h)
end Go.Proofs.YtdlgnhefpoalnaaGreatDoor
