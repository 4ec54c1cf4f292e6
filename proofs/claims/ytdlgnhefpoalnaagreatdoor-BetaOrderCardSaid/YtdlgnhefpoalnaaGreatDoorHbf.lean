/- The walk of the statement BetaOrder. Conditions: Go's own tables lie in memory (EnvA), the router lies in memory, addresses are numbers below 2^32. -/
import Derived.Test.YtdlgnhefpoalnaaGreatDoorHai
import Derived.Test.YtdlgnhefpoalnaaGreatDoorHap
import Derived.Test.YtdlgnhefpoalnaaGreatDoorHaq
import Derived.Test.YtdlgnhefpoalnaaGreatDoorHas
import Derived.Test.YtdlgnhefpoalnaaGreatDoorHat
set_option maxRecDepth 8000
set_option maxHeartbeats 8000000
namespace Go.Proofs.YtdlgnhefpoalnaaGreatDoor
open Lib (hid)
open Go.RowKit
def partN(r:Rt):Nat→List Nd
 |0=>sysN r
 |1=>ifsN r.ifs
 |2=>r.lists.map listN
 |3=>r.maps.map mapN
 |4=>r.acls.map aclN
 |5=>natN r.nat
 |6=>statN r.stat
 |7=>lsN r
 |8=>dvN r
 |_=>pvN r
def partsL:List Nat:=[0,1,2,3,4,5,6,7,8,9]
def oneW:Nat→List (List UInt8)
 |0=>[[115,121,115,116,101,109]]
 |1=>[[105,110,116,101,114,102,97,99,101,115]]
 |5=>[[116,114,97,110,115,108,97,116,105,111,110]]
 |6=>[[115,116,97,116,105,99]]
 |7=>[[108,105,110,107,45,115,116,97,116,101]]
 |8=>[[100,105,115,116,97,110,99,101,45,118,101,99,116,111,114]]
 |9=>[[112,97,116,104,45,118,101,99,116,111,114]]
 |_=>[]
def manyW:Nat→List (List UInt8)
 |2=>[[112,114,101,102,105,120,45,108,105,115,116]]
 |3=>[[112,111,108,105,99,121]]
 |4=>[[102,105,108,116,101,114]]
 |_=>[]
def KO(D:List Nat):KP:=Top (D.flatMap oneW) (D.flatMap manyW)
theorem far_word(f:Nat→List (List UInt8)){i:Nat}{D:List Nat}(hf:∀j∈partsL,∀w∈f i,w∈f j→j=i)(hD:∀j∈D,j∈partsL)(hn:i∉D):∀w∈f i,w∉D.flatMap f:=fun w hw hm=>by
 obtain⟨j,hj,h⟩:=List.mem_flatMap.1 hm;exact hn (hf j (hD j hj) w hw h ▸ hj)
theorem all_words(f:Nat→List (List UInt8)){D:List Nat}(hf:∀j∈partsL,(f j).all bare1=true)(hD:∀j∈D,j∈partsL):(D.flatMap f).all bare1=true:=List.all_eq_true.2 fun w hw=>by
 obtain⟨j,hj,h⟩:=List.mem_flatMap.1 hw;exact List.all_eq_true.1 (hf j (hD j hj)) w h
def stO(r:Rt)(D:List Nat):Rt:={ rtN with name:=if 0∈D then r.name else [],asn:=if 0∈D then r.asn else 0,ifs:=if 1∈D then r.ifs else [],lists:=if 2∈D then r.lists.map erP else [],maps:=if 3∈D then r.maps.map erM else [],acls:=if 4∈D then r.acls.map erA else [],nat:=if 5∈D then r.nat else [],stat:=if 6∈D then r.stat else [],lsOn:=if 7∈D then r.lsOn else false,lsAdmin:=if 7∈D then r.lsAdmin else 0,ranges:=if 7∈D then r.ranges else [],lsRed:=if 7∈D then r.lsRed else [],dvOn:=if 8∈D then r.dvOn else false,dvAdmin:=if 8∈D then r.dvAdmin else 0,dvIn:=if 8∈D then r.dvIn else [],dvOut:=if 8∈D then r.dvOut else [],dvRed:=if 8∈D then r.dvRed else [],pvOn:=if 9∈D then r.pvOn else false,ext:=if 9∈D then r.ext else 0,int:=if 9∈D then r.int else 0,nb:=if 9∈D then r.nb else [],net:=if 9∈D then r.net else [],ag:=if 9∈D then r.ag else [],cd:=if 9∈D then r.cd else [],pvRed:=if 9∈D then r.pvRed else [] }
theorem Reads.goal{f:Fm}{P P' : KP}{a:List Nd}{r r1 r2:Rt}(h:Reads f P P' a r r1)(e:r1=r2):Reads f P P' a r r2:=e ▸ h
theorem part_reads{r:Rt}(h:zBl r=0)(hf:r.fit){D:List Nat}(hD:∀j∈D,j∈partsL):∀i∈partsL,i∉D→Reads .top (KO D) (KO (i :: D)) (partN r i) (stO r D) (stO r (i :: D)):=by
 obtain⟨z1,z2,z3,z4,z5,z6,z7,z8,z9,z10,z11,z12⟩:=router_ok h;obtain⟨f1,f2,f3,f4,f5,f6,f7,f8,f9,f10,f11,f12,f13,f14⟩:=hf
 have each:∀{α:Type} {l:List α} {p:α→Bool},(∀k (hk:k<l.length),p l[k]=true)→∀x∈l,p x=true:=fun h x hx=>by
  obtain⟨k,hk,rfl⟩:=List.getElem_of_mem hx;exact h k hk
 have vI:=each (p:=fun x:If=>nameB x.name) fun k hk=>((ifs_ok z3).2 k hk).1
 have vL:=each (p:=fun x:PList=>nameB x.name) fun k hk=>((ls_ok z4).2 k hk).1
 have vM:=each (p:=fun x:RMap=>nameB x.name) fun k hk=>((ls_ok z5).2 k hk).1
 have vA:=each (p:=fun x:AList=>nameB x.name) fun k hk=>((ls_ok z6).2 k hk).1
 have a1:=all_words oneW (by decide) hD;have a2:=all_words manyW (by decide) hD;intro i hi hn;have w1:∀i∈partsL,∀j∈partsL,∀w∈oneW i,w∈oneW j→j=i:=by decide
 have w2:∀i∈partsL,∀j∈partsL,∀w∈manyW i,w∈manyW j→j=i:=by decide
 have o:=far_word oneW (w1 i hi) hD hn;have m:=far_word manyW (w2 i hi) hD hn;simp only[partsL,List.mem_cons,List.not_mem_nil,or_false]at hi;rcases hi with rfl|rfl|rfl|rfl|rfl|rfl|rfl|rfl|rfl|rfl
 ·exact(sys_reads (stO r D) r (o _ List.mem_cons_self) z1 (zAm z2) (if_neg hn)).goal (by simp[stO])
 ·exact(ifs_reads (stO r D) r.ifs (o _ List.mem_cons_self) z3 f1 (fun x hx=>two_has vA (zHb z8 x hx)) (if_neg hn)).goal (by simp[stO])
 ·exact(lists_reads (stO r D) r.lists a1 a2 (m _ List.mem_cons_self) z4 f2 (if_neg hn)).goal (by simp[stO])
 ·exact(maps_reads (stO r D) r.lists r.maps a1 a2 (m _ List.mem_cons_self) vL z5 (if_neg hn)).goal (by simp[stO])
 ·exact(acls_reads (stO r D) r.acls a1 a2 (m _ List.mem_cons_self) z6 f4 (if_neg hn)).goal (by simp[stO])
 ·exact(nat_reads (stO r D) r.acls r.nat (o _ List.mem_cons_self) z7 f5 vA (if_neg hn)).goal (by simp[stO])
 ·exact(stat_reads (stO r D) r.ifs r.stat (o _ List.mem_cons_self) z9 f6 vI (if_neg hn)).goal (by simp[stO])
 ·exact(ls_reads (stO r D) r (o _ List.mem_cons_self) z10 f7 vM (if_neg hn) (if_neg hn) (if_neg hn) (if_neg hn)).goal (by simp[stO])
 ·exact(dv_reads (stO r D) r (o _ List.mem_cons_self) z11 vL vM (if_neg hn) (if_neg hn) (if_neg hn) (if_neg hn) (if_neg hn)).goal (by simp[stO])
 ·exact(pv_reads (stO r D) r (o _ List.mem_cons_self) z12 f10 f11 f12 f13 vM (if_neg hn) (if_neg hn) (if_neg hn) (if_neg hn) (if_neg hn) (if_neg hn) (if_neg hn) (if_neg hn)).goal (by simp[stO])
theorem order_reads{r:Rt}(h:zBl r=0)(hf:r.fit):∀(L D:List Nat),(∀j∈D,j∈partsL)→(∀i∈L,i∈partsL∧i∉D)→L.Nodup→Reads .top (KO D) (KO (L.reverse++D)) (L.flatMap (partN r)) (stO r D) (stO r (L.reverse++D)):=by
 intro L;induction L with
 |nil=>intro D _ _ _;exact .nil fun _ h=>h
 |cons i L ih=>
  intro D hD hL hn;obtain⟨n1,n2⟩:=List.nodup_cons.1 hn;have h1:=hL i List.mem_cons_self;have X:=ih (i :: D) (fun j hj=>(List.mem_cons.1 hj).elim (fun e=>e ▸ h1.1) (hD j)) (fun j hj=>⟨(hL j (List.mem_cons_of_mem _ hj)).1,fun hm=>(List.mem_cons.1 hm).elim (fun e=>n1 (e ▸ hj)) (hL j (List.mem_cons_of_mem _ hj)).2⟩) n2;rw[List.flatMap_cons,List.reverse_cons,List.append_assoc,List.singleton_append];exact(part_reads h hf hD i h1.1 h1.2).app X
theorem flat_cut{α β:Type}(f:α→List β):∀(L:List α) (k:Nat),(∀x∈L,(f x).length≤1)→∃j,(L.flatMap f).drop k=(L.drop j).flatMap f∧(L.flatMap f).take k=(L.take j).flatMap f:=by
 intro L;induction L with
 |nil=>intro k _;exact⟨0,by simp,by simp⟩
 |cons x L ih=>
  intro k hL;have h1:=hL x List.mem_cons_self;have h2:∀y∈L,(f y).length≤1:=fun y hy=>hL y (List.mem_cons_of_mem _ hy)
  match k,hx:f x with
  |0,_=>exact⟨0,by simp,by simp⟩
  |k+1,[]=>
   obtain⟨j,e1,e2⟩:=ih (k+1) h2;exact⟨j+1,by simpa [hx] using e1,by simpa [hx] using e2⟩
  |k+1,[y]=>
   obtain⟨j,e1,e2⟩:=ih k h2;exact⟨j+1,by simpa [hx] using e1,by simpa [hx] using e2⟩
  |k+1,y :: z :: t=>rw[hx]at h1;simp at h1
theorem fmtN_parts(r:Rt):fmtN r=partsL.flatMap (partN r):=by simp only[fmtN,partsL,partN,List.flatMap_cons,List.flatMap_nil,List.append_nil]
theorem opt_one(b:Bool)(n:Nd):(optN b n).length≤1:=by cases b<;>simp[optN]
theorem part_one{r:Rt}(h1:r.lists.length≤1)(h2:r.maps.length≤1)(h3:r.acls.length≤1):∀i∈partsL,(partN r i).length≤1:=by
 intro i hi;simp only[partsL,List.mem_cons,List.not_mem_nil,or_false]at hi;rcases hi with rfl|rfl|rfl|rfl|rfl|rfl|rfl|rfl|rfl|rfl
 ·exact Nat.le_refl 1
 ·show(ifsN r.ifs).length≤1
  unfold ifsN;split<;>simp
 ·simpa [partN] using h1
 ·simpa [partN] using h2
 ·simpa [partN] using h3
 ·show(natN r.nat).length≤1
  unfold natN;split<;>simp
 ·show(statN r.stat).length≤1
  unfold statN;split<;>simp
 ·exact opt_one _ _
 ·exact opt_one _ _
 ·exact opt_one _ _
def rotN(r:Rt)(k:Nat):List Nd:=(fmtN r).drop k++(fmtN r).take k
theorem rot_reads{r:Rt}(h:zBl r=0)(hf:r.fit)(h1:r.lists.length≤1)(h2:r.maps.length≤1)(h3:r.acls.length≤1)(k:Nat):okL (rotN r k)∧readN .top [] (rotN r k) rtN=(r.plain,none):=by
 obtain⟨j,e1,e2⟩:=flat_cut (partN r) partsL k (part_one h1 h2 h3);have hp:(partsL.drop j++partsL.take j).Perm partsL:=List.perm_append_comm.trans (by rw[List.take_append_drop]);have R:=order_reads h hf (partsL.drop j++partsL.take j) [] (fun _ h=>by cases h) (fun i hi=>⟨hp.mem_iff.1 hi,List.not_mem_nil⟩) (hp.nodup_iff.2 (by decide));rw[List.flatMap_append,←e1,←e2,←fmtN_parts]at R;obtain⟨q,e,_⟩:=R.2 [] fun _ h=>by cases h
 have hm:∀i∈partsL,i∈(partsL.drop j++partsL.take j).reverse++[]:=fun i hi=>by
  rw[List.append_nil,List.mem_reverse];exact hp.mem_iff.2 hi
 refine⟨R.1,(foldN_read _ _ _ _ _ e).trans ?_⟩
 have e:stO r ((partsL.drop j++partsL.take j).reverse++[])=r.plain:=by
  have m:=fun i (hi:i∈partsL)=>hm i hi
  simp only[stO,if_pos (m 0 (by decide)),if_pos (m 1 (by decide)),if_pos (m 2 (by decide)),if_pos (m 3 (by decide)),if_pos (m 4 (by decide)),if_pos (m 5 (by decide)),if_pos (m 6 (by decide)),if_pos (m 7 (by decide)),if_pos (m 8 (by decide)),if_pos (m 9 (by decide))];rfl
 rw[e]
theorem textL_two(d:Nat)(a b:List Nd):textL d (a++b)=textL d a++textL d b:=by
 induction a with
 |nil=>rfl
 |cons x r ih=>simp only[List.cons_append,textL,ih,List.append_assoc]
theorem rot_len(r:Rt)(k:Nat):(textL 0 (rotN r k)).length=(textL 0 (fmtN r)).length:=by
 rw[rotN,textL_two,List.length_append,Nat.add_comm,←List.length_append,←textL_two,List.take_append_drop]
theorem parse_rot{r:Rt}(h:zBl r=0)(hf:r.fit)(h1:r.lists.length≤1)(h2:r.maps.length≤1)(h3:r.acls.length≤1)(k:Nat)(hl:(textL 0 (fmtN r)).length≤65536):∃n,zIe zBl (textL 0 (rotN r k))=(n,0,r.plain):=by
 obtain⟨a1,a2⟩:=rot_reads h hf h1 h2 h3 k;obtain⟨_,h4,h5⟩:=zJk a1 0;have h6:zAu (textL 0 (rotN r k))=0:=by rw[zAu,if_neg (by rw[rot_len];omega),h4];rfl
 exact⟨_,by rw[zIe,if_pos h6,parseT_text a1 h5 a2,zMj,if_pos h]⟩
def blockGo:List UInt8→List (List UInt8)→List (List UInt8)
 |_,[]=>[]
 |now,l :: r=>if l==[125]then(now++l++[10]) :: blockGo [] r else blockGo (now++l++[10]) r
theorem block_run(c:List (List UInt8)):∀(a:List (List UInt8)) (now:List UInt8),(∀z∈a,2≤z.length)→blockGo now (a++[125] :: c)=(now++(a++[[125]]).flatMap (·++[10])) :: blockGo [] c:=by
 intro a;induction a with
 |nil=>intro now _;simp[blockGo]
 |cons z a ih=>
  intro now h
  have hz:(z==[125])=false:=by
   rw[beq_eq_false_iff_ne];rintro rfl;exact absurd (h _ List.mem_cons_self) (by decide)
  rw[List.cons_append,blockGo,hz,if_neg (by decide),ih _ fun y hy=>h y (List.mem_cons_of_mem _ hy)];simp
mutual
theorem deepN:∀(n:Nd) (d:Nat),∀z∈zKh (d+1) n,2≤z.length
 |.mk _ ws false _,d,z,h=>by
  simp only[zKh,List.mem_singleton]at h;subst h;simp only[lineB,ind,List.length_append,List.length_cons,List.length_nil];omega
 |.mk _ ws true ks,d,z,h=>by
  simp only[zKh,List.mem_cons,List.mem_append,List.not_mem_nil,or_false]at h;rcases h with rfl|h|rfl
  ·simp only[lineB,ind,List.length_append,List.length_cons,List.length_nil]
   omega
  ·exact deepL ks (d+1) z h
  ·simp only[lineB,ind,List.length_append,List.length_cons,List.length_nil]
   omega
theorem deepL:∀(l:List Nd) (d:Nat),∀z∈zEm (d+1) l,2≤z.length
 |[],_,z,h=>by simp only[zEm,List.not_mem_nil]at h
 |n :: r,d,z,h=>by
  simp only[zEm,List.mem_append]at h;exact h.elim (deepN n d z) (deepL r d z)
end
def isBl:Nd→Bool
 |.mk _ _ b _=>b
theorem block_text:∀ns:List Nd,(∀n∈ns,isBl n=true)→blockGo [] (zEm 0 ns)=ns.map (textN 0)
 |[],_=>rfl
 |.mk l ws b ks :: r,h=>by
  have hb:b=true:=h _ List.mem_cons_self;subst hb;have e:zEm 0 (.mk l ws true ks :: r)=(lineB 0 ws [32,123] :: zEm 1 ks)++[125] :: zEm 0 r:=by simp[zEm,zKh,lineB,ind,joinW]
  rw[e,block_run _ _ _ fun z hz=>?_,block_text r fun n hn=>h n (List.mem_cons_of_mem _ hn),List.map_cons,textN_lines]
  ·simp[zKh,lineB,ind,joinW]
  ·rcases List.mem_cons.1 hz with rfl|hz
   ·simp only[lineB,List.length_append,List.length_cons,List.length_nil];omega
   ·exact deepL ks 0 z hz
theorem opt_bls{b:Bool}{ws:List (List UInt8)}{ks:List Nd}:∀n∈optN b (bln ws ks),isBl n=true:=by
 intro n hn;cases b with
 |true=>rw[List.mem_singleton.1 hn];rfl
 |false=>cases hn
theorem if_bls{b:Bool}{ws:List (List UInt8)}{ks:List Nd}:∀n∈(if b then []else [bln ws ks]),isBl n=true:=by
 intro n hn;cases b with
 |false=>rw[List.mem_singleton.1 hn];rfl
 |true=>cases hn
theorem fmt_bls(r:Rt):∀n∈fmtN r,isBl n=true:=by
 intro n hn;simp only[fmtN,List.mem_append]at hn;rcases hn with h|h|h|h|h|h|h|h|h|h
 ·rw[List.mem_singleton.1 h];rfl
 ·exact if_bls n h
 ·obtain⟨x,_,rfl⟩:=List.mem_map.1 h;rfl
 ·obtain⟨x,_,rfl⟩:=List.mem_map.1 h;rfl
 ·obtain⟨x,_,rfl⟩:=List.mem_map.1 h;rfl
 ·exact if_bls n h
 ·exact if_bls n h
 ·exact opt_bls n h
 ·exact opt_bls n h
 ·exact opt_bls n h
theorem textL_flat(d:Nat):∀ns:List Nd,textL d ns=(ns.map (textN d)).flatten
 |[]=>rfl
 |n :: r=>by simp only[textL,List.map_cons,List.flatten_cons,textL_flat d r]
theorem nodes_lines(d:Nat):∀ns:List Nd,ns.length≤(zEm d ns).length
 |[]=>Nat.zero_le _
 |.mk _ ws b ks :: r=>by
  have:=nodes_lines d r;cases b<;>simp only[zEm,zKh,List.length_append,List.length_cons,List.length_nil]<;>omega
theorem rot_text(r:Rt)(k:Nat):(((fmtN r).map (textN 0)).drop k++((fmtN r).map (textN 0)).take k).flatten=textL 0 (rotN r k):=by rw[textL_flat,rotN,List.map_append,List.map_drop,List.map_take]
theorem rot_get{α:Type}(l:List α){k i:Nat}(hk:k<l.length)(hi:i<l.length):(l.drop k++l.take k)[i]? = l[(i+k) % l.length]?:=by
 by_cases h:i+k<l.length
 ·rw[List.getElem?_append_left (by rw[List.length_drop];omega),List.getElem?_drop,Nat.mod_eq_of_lt h,Nat.add_comm]
 ·rw[List.getElem?_append_right (by rw[List.length_drop];omega),List.length_drop,List.getElem?_take_of_lt (by omega),Nat.mod_eq_sub_mod (by omega),Nat.mod_eq_of_lt (by omega)]
  congr 1;omega
theorem take_more{l:List (List UInt8)}{i:Nat}{x:List UInt8}(h:l[i]? = some x):(l.take (i+1)).flatten=(l.take i).flatten++x:=by
 rw[List.take_add_one,h];simp
theorem order_law{r:Rt}(h:zBl r=0)(hf:r.fit)(h1:r.lists.length≤1)(h2:r.maps.length≤1)(h3:r.acls.length≤1)(hl:(textL 0 (fmtN r)).length≤65536) :
  ∃ls Bs:List (List UInt8),(zAu (textL 0 (fmtN r))=0∧zEb (textL 0 (fmtN r))=ls∧ls.length≤65537∧∀z∈ls,z.length≤65536)∧blockGo [] ls=Bs∧0<Bs.length∧Bs.length≤ls.length∧∀k,k<Bs.length→((Bs.drop k++Bs.take k).flatten).length≤65536∧∃n,zIe zBl (Bs.drop k++Bs.take k).flatten=(n,0,r.plain):=by
 have h0:=(rot_reads h hf h1 h2 h3 0).1;rw[show rotN r 0=fmtN r by simp[rotN]]at h0;obtain⟨e1,e2,_⟩:=zJk h0 0;have e3:zAu (textL 0 (fmtN r))=0:=by rw[zAu,if_neg (by omega),e2];rfl
 have e4:=zKz (str (textL 0 (fmtN r)));rw[zAt,zAv,e1]at e4;refine⟨zEm 0 (fmtN r),(fmtN r).map (textN 0),⟨e3,by rw[zEb,if_pos e3,e1],by omega,fun z hz=>?_⟩,block_text _ (fmt_bls r),?_,?_,fun k _=>?_⟩
 ·have:=lines_each _ z (e1.symm ▸ hz)
  omega
 ·rw[List.length_map,fmtN,List.length_append]
  show 0<1+_;omega
 ·rw[List.length_map]
  exact nodes_lines 0 (fmtN r)
 ·rw[rot_text,rot_len]
  exact⟨hl,parse_rot h hf h1 h2 h3 k hl⟩
theorem blocks_any(t:List UInt8)(ls Bs:List (List UInt8))(w:World)(he:zAu t=0)(hx:zEb t=ls)(hn:ls.length≤65537)(hz:∀z∈ls,z.length≤65536)(hbs:blockGo [] ls=Bs) :
  Calls Tryz.prog 18 #[.string (str t)] w fun e w' =>∃v,e=.returned v∧w'.ownsRow w.heap.size 9 1 v Bs.length (Bs.map strV)∧Below w.heap.size w w' := by
 obtain⟨i0,hi0,hz0,hz1,hz2⟩:=info_parts Tryz.strInfo;have Hi0:=hid hi0;have Hz0:=hid hz0;have Hz1:=hid hz1;have Hz2:=hid hz2;have HL:=hid (zNj (str t) w 0 ls (by rw[zAt];exact he) (by rw[zAt];exact hx));have HZ:=hid hz;have HB:=hid hbs;clear hi0 hz0 hz1 hz2 he hx hz hbs;go_enter Tryz.func18,Tryz.ntmps18;go_wp2_with fail;refine HL.out.mono ?_;rintro e w1 ⟨v1,rfl,ho1,hb1⟩;have hsz:=hb1.size;have S1:=Slc.of_own ho1;clear ho1 HL;obtain⟨A,c,ev⟩:=slc_form S1;subst ev;have HS:=hid S1;clear S1;go_wp2;go_loopg [5,6,7] ls.length (fun g v m i wr=>∃(k:Nat) (xs:List (List UInt8)) (now:List UInt8),k+g=ls.length∧i=.int .i64 k∧m=.string (str now)∧now.length≤k*65537∧xs.length≤k∧wr.ownsRow w1.heap.size 9 1 v xs.length (xs.map strV)∧Below w1.heap.size w1 wr∧Hid (Bs=xs++blockGo now (ls.drop k)));case atStart=>exact⟨0,[],[],by omega,rfl,rfl,by simp,by simp,World.ownsRow_nil _ _ _ _,Below.refl _ _,hid (by rw[List.drop_zero,HB.out];rfl)⟩
 case round=>
  obtain⟨k,xs,now,hk,rfl,rfl,hnow,hxs,hown,hbx,HI⟩:=hrel;have hbz:=hbx.size;by_cases hlt:k<ls.length
  ·obtain⟨ga,oa,eA,hga,c1⟩:=slc_at HS.out rfl hlt
   have HD:=hid (list_step ls k hlt);have hzl:ls[k].length≤65536:=HZ.out _ (List.getElem_mem hlt);generalize ls[k]=z at c1 HD hzl;unfold strV at c1;have c2:wr.cell? ⟨ga,oa+k,none⟩=some (.string (str z)):=(hbx.cell (p:=⟨ga,oa+k,none⟩) hga).trans c1;subst eA;have e1:str now++str z=str (now++z):=zIy _ _;have e2:str (now++z)++⟨#[10]⟩=str (now++(z++[10])):=by rw[←List.append_assoc];exact zIy _ [10]
   have z1:¬(9223372036854775807<(str now).size+(str z).size):=by rw[zAv,zAv];omega
   have z2:¬(9223372036854775807<(str (now++z)).size+1):=by rw[zAv,List.length_append];omega
   have q0:=wq z [125];clear c1;cases hc:(z==[125])with
   |true=>
    have HI2:Hid (Bs=(xs++[now++(z++[10])])++blockGo [] (ls.drop (k+1))):=hid (by rw[HI.out,HD.out,blockGo,if_pos hc];simp);clear HI HD;rw[hc]at q0;go_wp2_with (first|(at_builtin;refine zBw _ rfl _ _ 52 rfl w1.heap.size 9 i0 _ 1 16 Tryz.underlying52 Hi0.out Hz0.out Hz1.out Hz2.out rfl (by decide) _ xs.length (xs.map strV) rfl hown #[.string (str (now++(z++[10])))] rfl rfl (one_str _) (by omega) (by decide) hbz ?_;intro v2 w2 hown2 hb2));go_roundg (ls.length - (k+1));case measure=>omega
    case rel=>exact⟨k+1,xs++[now++(z++[10])],[],by omega,by go_num,rfl,by simp,by simp;omega,by simpa [strV] using hown2,hbx.trans hb2,HI2⟩
   |false=>
    have HI2:Hid (Bs=xs++blockGo (now++(z++[10])) (ls.drop (k+1))):=hid (by rw[HI.out,HD.out,blockGo,if_neg (by rw[hc];decide),List.append_assoc]);clear HI HD;rw[hc]at q0;go_wp2;go_roundg (ls.length - (k+1));case measure=>omega
    case rel=>exact⟨k+1,xs,now++(z++[10]),by omega,by go_num,rfl,by simp only[List.length_append,List.length_cons,List.length_nil];omega,by omega,hown,hbx,HI2⟩
  ·have HF:Hid (Bs=xs):=hid (by rw[HI.out,List.drop_eq_nil_of_le (by omega),blockGo,List.append_nil])
   go_wp2;go_ret;refine⟨_,rfl,?_,hb1.trans (hbx.mono hsz)⟩;rw[HF.out];exact base_mono hown hsz
theorem betaOrder_walk(r:Rt)(kk:Int)(hkk:(-9223372036854775808≤kk∧kk≤9223372036854775807))(w:World)(B:Nat)(hB:B≤w.heap.size)(h:r.at w B)(hf:r.fit)(he:EnvA w.heap.size w):Calls Tryz.prog 7 #[.agg r.C,.int .i64 kk] w fun e w' => e=.returned (.bool true)∧Below w.heap.size w w' := by
 have HSN:=hid (fun(W:World) (hW:Below w.heap.size w W)=>sane_gen zBl zJr (by kernel_rfl) W ((he.keep hW).up hW.size));have HP:=hid (fun(T:ByteArray) (W:World) (hW:Below w.heap.size w W)=>zJr T W ((he.keep hW).up hW.size));have HE:=hid (fun(W:World) (hW:Below w.heap.size w W)=>(he.keep hW).up hW.size);have HBB:=hid hB;have HR:=hid h;have HF:=hid hf;have H1:=hid (RB.start r w);clear he h hf hB;go_enter Tryz.func7,Tryz.ntmps7;go_wp2_with (refine zAa rfl 41 _ rfl rfl H1.out.h.range Tryz.rowRt Tryz.sizeRt ?_);refine(small_any r _ B (Nat.le_trans HBB.out H1.out.b.size) (HR.out.below (H1.out.b.mono HBB.out))).mono ?_;rintro e w2 ⟨he2,hb⟩;have H2:=hid (H1.out.keep hb);clear hb H1;rcases he2 with rfl|⟨rfl,hps⟩
 case inl=>
  go_wp2;go_ret;exact⟨rfl,H2.out.b⟩
 go_wp2_with (first|(refine zAa rfl 41 _ rfl rfl H2.out.h.range Tryz.rowRt Tryz.sizeRt ?_)|(refine zAh (by rfl) (zAa rfl 41 _ rfl rfl H2.out.h.range Tryz.rowRt Tryz.sizeRt ?_)));refine(rcheck_all r _ B (Nat.le_trans HBB.out H2.out.b.size) (HR.out.below (H2.out.b.mono HBB.out)) HF.out hps).mono ?_;rintro e w3 ⟨rfl,hb⟩;have H3:=hid (H2.out.keep hb);clear hb H2 hps;obtain⟨E,hE⟩:∃E,zBl r=E:=⟨_,rfl⟩;rw[hE];by_cases h0:E=0;case neg=>
  have d0:(E != 0)=true:=by simpa using h0
  clear hE h0;go_wp2;go_ret;exact⟨rfl,H3.out.b⟩
 subst h0;have HV:=hid hE;clear hE;obtain⟨A3,k3,e3,-⟩:=(HR.out).hlists;obtain⟨A4,k4,e4,-⟩:=(HR.out).hmaps;obtain⟨A5,k5,e5,-⟩:=(HR.out).hacls;have c3:w3.cell? ⟨w.heap.size,3,none⟩=some (.slice A3 r.lists.length k3):=(H3.out.h.cell 3).trans (congrArg some e3);have c4:w3.cell? ⟨w.heap.size,4,none⟩=some (.slice A4 r.maps.length k4):=(H3.out.h.cell 4).trans (congrArg some e4);have c5:w3.cell? ⟨w.heap.size,5,none⟩=some (.slice A5 r.acls.length k5):=(H3.out.h.cell 5).trans (congrArg some e5);clear e3 e4 e5;obtain⟨n3,h3⟩:∃n,n=r.lists.length:=⟨_,rfl⟩;obtain⟨n4,h4⟩:∃n,n=r.maps.length:=⟨_,rfl⟩;obtain⟨n5,h5⟩:∃n,n=r.acls.length:=⟨_,rfl⟩;rw[←h3]at c3;rw[←h4]at c4;rw[←h5]at c5;have G3:=hid h3;have G4:=hid h4;have G5:=hid h5;clear h3 h4 h5;by_cases d3:(1:Int)<(n3:Int);case pos=>
  clear c4 c5;go_wp2;go_ret;exact⟨rfl,H3.out.b⟩
 by_cases d4:(1:Int)<(n4:Int);case pos=>
  clear c5;go_wp2;go_ret;exact⟨rfl,H3.out.b⟩
 by_cases d5:(1:Int)<(n5:Int);case pos=>
  go_wp2;go_ret;exact⟨rfl,H3.out.b⟩
 have HFW:=hid (format_walk r w3 B (HR.out.below (H3.out.b.mono HBB.out)) (Nat.le_trans HBB.out H3.out.b.size) HF.out (HE.out w3 H3.out.b));go_wp2_with (refine zAa rfl 41 _ rfl rfl H3.out.h.range Tryz.rowRt Tryz.sizeRt ?_);refine HFW.out.mono ?_;rintro e w4 ⟨he4,hb⟩;have H4:=hid (H3.out.keep hb);clear hb HFW H3 c3 c4 c5;obtain⟨F,hF⟩:∃F,F=formatB zBl r:=⟨_,rfl⟩;rw[←hF]at he4;have HFF:=hid hF;clear hF;by_cases hl:65536<(textL 0 (fmtN r)).length;case pos=>
  have E:F=([],7):=HFF.out.trans ((if_pos HV.out).trans (if_pos hl));subst E;subst he4;clear hl;go_wp2_with fail;refine(HSN.out w4 H4.out.b).mono ?_;rintro e w5 ⟨rfl,hb⟩;have H5:=hid (H4.out.keep hb);clear hb;go_wp2;go_ret;exact⟨rfl,H5.out.b⟩
 have E:F=(textL 0 (fmtN r),0):=HFF.out.trans ((if_pos HV.out).trans (if_neg hl));subst E;subst he4;obtain⟨ls,Bs,⟨l1,l2,l3,l4⟩,b1,b2,b3,b4⟩:=order_law HV.out HF.out (by rw[←G3.out];omega) (by rw[←G4.out];omega) (by rw[←G5.out];omega) (by omega);clear HFF d3 d4 d5 hl;generalize textL 0 (fmtN r)=t at *;have HBL:=hid (blocks_any t ls Bs w4 l1 l2 l3 l4 b1);have HK:=hid b4;have hbl:Bs.length≤65537:=Nat.le_trans b3 l3;clear l1 l2 l3 l4 b1 b3 b4 HV;go_wp2_with fail;refine HBL.out.mono ?_;rintro e w5 ⟨v5,rfl,ho,hb⟩;have H5:=hid (H4.out.keep hb);have S5:=Slc.of_own ho;obtain⟨A,c,ev⟩:=slc_form S5;subst ev;have HS:=hid S5;clear ho hb S5 H4 HBL;have b2' : (0:Int)<(Bs.length:Int):=by omega
 by_cases q1:kk<0;case pos=>
  go_wp2_with fail;refine(HSN.out w5 H5.out.b).mono ?_;rintro e w6 ⟨rfl,hb⟩;have H6:=hid (H5.out.keep hb);clear hb;go_wp2;go_ret;exact⟨rfl,H6.out.b⟩
 by_cases q2:(Bs.length:Int)≤kk;case pos=>
  go_wp2_with fail;refine(HSN.out w5 H5.out.b).mono ?_;rintro e w6 ⟨rfl,hb⟩;have H6:=hid (H5.out.keep hb);clear hb;go_wp2;go_ret;exact⟨rfl,H6.out.b⟩
 obtain⟨k,rfl⟩:∃k:Nat,kk=k:=⟨kk.toNat,by omega⟩;have hk:k<Bs.length:=by omega
 obtain⟨t1,nl,t2⟩:=HK.out k hk;have HRG:=hid (fun i (hi:i<Bs.length)=>rot_get Bs hk hi);have hrl:(Bs.drop k++Bs.take k).length=Bs.length:=by rw[List.length_append,List.length_drop,List.length_take];omega
 have HTM:=hid (fun i x (h:(Bs.drop k++Bs.take k)[i]? = some x)=>take_more h);generalize Bs.drop k++Bs.take k=Rs at *;have HT:=hid t1;have HPT:=hid t2;clear t1 t2 HK hkk;go_wp2;go_loopg [8,9] Bs.length (fun g v i wr=>∃(j:Nat),j+g=Bs.length∧i=.int .i64 j∧v=.string (str (Rs.take j).flatten)∧wr=w5);case atStart=>exact⟨0,by omega,rfl,rfl,rfl⟩
 case round=>
  obtain⟨j,hj,rfl,rfl,ew⟩:=hrel;subst ew;by_cases hlt:j<Bs.length
  ·have hm:(j+k) % Bs.length<Bs.length:=Nat.mod_lt _ (by omega)
   obtain⟨ga,oa,eA,hga,c1⟩:=slc_at HS.out rfl hm;have e0:=HTM.out j Bs[(j+k) % Bs.length] ((HRG.out j hlt).trans (List.getElem?_eq_getElem hm))
   have hl0:((Rs.take (j+1)).flatten).length≤65536:=by
    have e:=congrArg List.length (congrArg List.flatten (List.take_append_drop (j+1) Rs));rw[List.flatten_append,List.length_append]at e;have:=HT.out;omega
   rw[e0,List.length_append]at hl0;generalize Bs[(j+k) % Bs.length]=z at c1 e0 hl0;unfold strV at c1;subst eA;have e1:str (Rs.take j).flatten++str z=str (Rs.take (j+1)).flatten:=by rw[zIy,e0]
   have z1:¬(9223372036854775807<(str (Rs.take j).flatten).size+(str z).size):=by rw[zAv,zAv];omega
   generalize hmk:(j+k) % Bs.length=m at *;have hmt:Int.tmod ((j:Int)+(k:Int)) (Bs.length:Int)=(m:Int):=by rw[←hmk,Int.tmod_eq_emod_of_nonneg (by omega)];push_cast;rfl
   clear e0;go_wp2;go_roundg (Bs.length - (j+1));case measure=>omega
   case rel=>exact⟨j+1,by omega,by go_num,by first|rfl|rw[e1],rfl⟩
  ·have ej:Rs.take j=Rs:=List.take_of_length_le (by omega)
   rw[ej];clear ej HS hrl;have HS:=hid (HP.out (str Rs.flatten) wr H5.out.b);go_wp2_with fail;refine HS.out.mono ?_;rintro e w6 ⟨hb,x,hpx,he6,hat,-,-⟩;rw[zAt,HPT.out]at hpx he6;dsimp only at hpx he6;subst he6;have HA6:=hid (hat [] w6 (fun _ h=>by cases h) (Fr.refl _ _));have H6:=hid (H5.out.keep hb);have HPX:=hid hpx;clear hb hat hpx HPT H5 HS;go_upto_region 15 with(refine zAd rfl 41 _ _ rfl rfl (ds:=x.C) rfl (HasC.new _ _ _) rfl Tryz.sizeRt HA6.out.one ?_;intro w7 hz1 hz2)
   have HB7:=hid (zAi hz2);have H7:=hid (H6.out.keep HB7.out);have X7:=hid hz1;have HA7:=hid ((HA6.out.below HB7.out).lift HB7.out.size);clear hz1 hz2 HA6 HB7 H6;generalize hgr:w6.heap.size=gx at X7⊢;clear hgr;have HAR:=hid ((HR.out.below (H7.out.b.mono HBB.out)).lift (Nat.le_trans HBB.out H7.out.b.size));have HSM:=hid (same_any x r w7 w7.heap.size HA7.out HAR.out (Nat.le_refl _) HPX.out);clear HA7 HAR HPX;go_wp2_with (first|(refine zAh (by rfl) (zAa rfl 41 _ rfl rfl X7.out.range Tryz.rowRt Tryz.sizeRt ?_))|(refine zAh (by rfl) (zAa rfl 41 _ rfl rfl H7.out.h.range Tryz.rowRt Tryz.sizeRt ?_)));refine HSM.out.mono ?_;rintro e w8 ⟨rfl,hb⟩;have H8:=hid (H7.out.keep hb);clear hb HSM X7 H7;go_wp2_with fail;refine(HSN.out w8 H8.out.b).mono ?_;rintro e w9 ⟨rfl,hb⟩;have H9:=hid (H8.out.keep hb);clear hb;go_wp2;go_ret;exact⟨rfl,H9.out.b⟩
theorem betaOrder_card(r:Rt)(kk:Int)(w:World)(he:EnvA w.heap.size w)(h:r.at w w.heap.size)(hf:r.fit)(hk:(Lit.int .i64 kk).wf=true):Calls Tryz.prog 7 #[.agg r.C,.int .i64 kk] w fun e w' => e=.returned (.bool true)∧Below w.heap.size w w' := betaOrder_walk r kk (by simpa [Lit.wf,IntKind.min,IntKind.max,IntKind.signed,IntKind.bits] using hk) w _ (Nat.le_refl _) h hf he
end Go.Proofs.YtdlgnhefpoalnaaGreatDoor
