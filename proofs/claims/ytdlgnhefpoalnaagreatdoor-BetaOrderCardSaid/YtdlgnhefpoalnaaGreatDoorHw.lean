/- Plain: a text's tokens, written anew with any of four gaps behind each, are the same tokens. No condition. -/
import Derived.Test.YtdlgnhefpoalnaaGreatDoorHa
namespace Go.Proofs.YtdlgnhefpoalnaaGreatDoor
open Lib (hid)
open Go.RowKit
def wAll(l:List UInt8):Bool:=l.all fun b=>wordB b.toNat
def TkF(x:List UInt8):Prop:=(x≠[]∧wAll x=true)∨∃b:UInt8,x=[b]∧markB b.toNat=true
def txs(l:List (Int × List UInt8)):List (List UInt8):=l.map Prod.snd
theorem txs_from:∀(ls:List (List UInt8)) (n:Int),txs (zBx n ls)=ls.flatMap zHv:=by
 intro ls;induction ls with
 |nil=>intro n;rfl
 |cons l r ih=>
  intro n;have:=ih (n+1);simp only[txs]at this;simp only[txs,zBx,List.map_append,this,List.flatMap_cons,List.map_map]
  congr 1
  exact List.map_id' _
theorem run_tok(r:List UInt8):∀(x cur:List UInt8),wAll x=true→tokGo cur (x++r)=tokGo (cur++x) r:=by
 intro x;induction x with
 |nil=>intro cur _;simp
 |cons b t ih=>
  intro cur h;have h1:wordB b.toNat=true∧wAll t=true:=by simpa [wAll] using h
  have h2:zGo b.toNat=false∧markB b.toNat=false∧(b.toNat:Int)≠35:=by
   have:=h1.1;simp only[wordB,Bool.and_eq_true,Bool.not_eq_true', beq_eq_false_iff_ne]at this;exact⟨this.1.1,this.1.2,this.2⟩
  rw[List.cons_append,tokGo,if_neg h2.2.2,if_neg (by simp[h2.1]),if_neg (by simp[h2.2.1]),ih _ h1.2,List.append_assoc,List.singleton_append]
theorem tok_gap{x:List UInt8}(h:TkF x){b:UInt8}(hb:zGo b.toNat=true)(hn:(b.toNat:Int)≠35)(r:List UInt8):tokGo [] (x++b :: r)=x :: tokGo [] r:=by
 rcases h with⟨h1,h2⟩|⟨c,rfl,hm⟩
 ·rw[run_tok _ x [] h2,List.nil_append,tokGo,if_neg hn,if_pos hb,flush,if_neg h1];rfl
 ·have hc:(c.toNat:Int)≠35∧zGo c.toNat=false:=by
   constructor
   ·intro e;rw[e]at hm;exact absurd hm (by decide)
   ·cases he:zGo c.toNat with
    |false=>rfl
    |true=>
     simp only[zGo,Bool.or_eq_true,beq_iff_eq]at he;rcases he with he|he<;>rw[he]at hm<;>exact absurd hm (by decide)
  rw[List.singleton_append,tokGo,if_neg hc.1,if_neg (by simp[hc.2]),if_pos hm,tokGo,if_neg hn,if_pos hb];rfl
theorem run_line(r:List UInt8):∀(x cur:List UInt8),(∀b∈x,(b.toNat:Int)≠10)→zCs cur (x++r)=zCs (cur++x) r:=by
 intro x;induction x with
 |nil=>intro cur _;simp
 |cons b t ih=>
  intro cur h;rw[List.cons_append,zCs,if_neg (h b List.mem_cons_self),ih _ (fun c hc=>h c (List.mem_cons_of_mem _ hc)),List.append_assoc,List.singleton_append]
end Go.Proofs.YtdlgnhefpoalnaaGreatDoor
