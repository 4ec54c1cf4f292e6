/- The walk of the statements' sanity check, over any contract of CheckRouter. Condition: Go's own tables lie in memory (EnvA). -/
import Derived.Test.YthcnojmldldpeaaGreatDoorGt
import Derived.Deep.DeepAppendWide
import Derived.StillTailTactics
set_option maxRecDepth 8000
set_option maxHeartbeats 8000000
namespace Go.Proofs.YthcnojmldldpeaaGreatDoor
open Lib (hid)
open Go.RowKit
end Go.Proofs.YthcnojmldldpeaaGreatDoor
namespace Go.Proofs.YthcnojmldldpeaaGreatDoor
open Lib (hid)
open Go.RowKit
theorem OwnE.push{α:Type}{P:Program}{w:World}{B n bts:Nat}{T SL:TypeId}{cells:α→Array Value}{v:Value}{l:List α}(h:OwnE w B T n cells v l)(hB:B≤w.heap.size)(hu:P.underlying SL=some (.slice T))
  (hI:(P.info? T).map (fun i=>(i.zero.map (fun z=>z.cells.size),i.size,i.bytes))=some (some n,n,bts)) (hn:0<n) (hl:∀x,(cells x).toList.length=n) (x:α) (h1:(cells x).all (·.oneCell')=true)
  (hb:(l.length+1)*bts≤140737488355328) (hk:0<bts) (ty:TypeId) :
  ∃A m c w', (Builtin.append_ #[SL,SL] ty #[v,.slice (some ⟨w.heap.size,0,none⟩) 1 1]).run P (w.alloc (.cells (cells x) T))=.ok (.slice A m c) w' ∧ OwnE w' B T n cells (.slice A m c) (l++[x])∧w.grownBy w' v.ownBlock ∧
   ((Value.slice A m c).ownBlock=v.ownBlock∨(Value.slice A m c).ownBlock=none∨∃k,(Value.slice A m c).ownBlock=some k∧w.heap.size≤k):=by
 obtain⟨i,z,hi,hz,hzs,his,hib⟩:=info_cells hI;have ho:(w.alloc (.cells (cells x) T)).ownsRow B T n v l.length (l.flatMap fun x=>(cells x).toList):=OwnE.below h ((Below.refl _ w).alloc (Nat.le_refl _) _);have hm:=Nat.le_mul_of_pos_right (l.length+1) hk;obtain⟨v', w', hr,h2,h3,-,h5⟩:=run_append_own_at (P:=P) (w.alloc (.cells (cells x) T)) B SL ty T i z n bts hu hi hz his hib hzs hn v l.length _ ho ⟨w.heap.size,0,none⟩ 1 1 (cells x).toList (by rw[hl,Nat.one_mul])
  (fun j u hj=>by rw[zHz];simpa using hj) (fun u hu=>Array.all_eq_true_iff_forall_mem.1 h1 u (by simpa using hu)) (by simp only[maxLen];omega) hb (by simp;omega)
 have hf:∃A m c,v' = .slice A m c:=by
  rcases h2.2 with⟨e,-⟩|⟨g,cap,cur,e,-⟩
  ·exact⟨_,_,_,e⟩
  ·exact⟨_,_,_,e⟩
 obtain⟨A,m,c,rfl⟩:=hf;refine⟨A,m,c,w', hr,OwnE.snoc h2,(World.grownBy_alloc w _ _).trans h3,?_⟩;rcases h5 with q|q
 ·exact .inl q
 ·exact .inr (.inr ⟨_,q,by simp⟩)
def stA(p:Ps):Sr × Ps :=
 if wV (pxS p)==[118,105,97]then(⟨(pxV p).1,(pxV p).2,adV (wS (pxS p)),[],false,1,0⟩,adS (wS (pxS p)))else if wV (pxS p)==[105,110,116,101,114,102,97,99,101]then(⟨(pxV p).1,(pxV p).2,0,nmV (wS (pxS p)),false,1,0⟩,nmS (wS (pxS p)))else if wV (pxS p)==[100,105,115,99,97,114,100]then(⟨(pxV p).1,(pxV p).2,0,[],true,1,0⟩,(wS (pxS p)))else(⟨(pxV p).1,(pxV p).2,0,[],false,1,0⟩,((wS (pxS p))).fail)
def stB(b:Sr × Ps):Sr × Ps:=if isW [97,100,109,105,110] b.2 then({ b.1 with admin:=noV 1 255 (optS [97,100,109,105,110] b.2) },noS 1 255 (optS [97,100,109,105,110] b.2))else b
def stC(b:Sr × Ps):Sr × Ps:=if isW [116,97,103] b.2 then({ b.1 with tag:=noV 0 65535 (optS [116,97,103] b.2) },noS 0 65535 (optS [116,97,103] b.2))else b
theorem pStatic_st(p:Ps):zEt p=stC (stB (stA p)):=rfl
theorem static_any(g b B:Nat)(w0:World)(a:Al)(p:Ps)(w:World)(h:RA g b B w0 a p w)(hk:AlOk 1000000000 a)(he:EnvA B w0)(hs:p.short) :
  Calls Tryz.prog 177 #[.pointer (some ⟨g,0,none⟩),.pointer (some ⟨b,0,none⟩)] w (APost g b B w0 ({ a with stat:=replL (likeSr (zEt p).1) (zEt p).1 a.stat }) ((zEt p).2)):=by
 obtain⟨v,h,hl,hI,hC⟩:=h;have H:=hid h;have HE:=hid he;have HS:=hid hs;have HK:=hid hk;have HL:=hid hl;have HI:=hid hI;have HC:=hid hC;clear h he hs hk hl hI hC;have q0:((str (wV (pxS p))).toList==[118,105,97])=((wV (pxS p))==[118,105,97]):=by rw[zAe]
 have q1:((str (wV (pxS p))).toList==[105,110,116,101,114,102,97,99,101])=((wV (pxS p))==[105,110,116,101,114,102,97,99,101]):=by rw[zAe]
 have q2:((str (wV (pxS p))).toList==[100,105,115,99,97,114,100])=((wV (pxS p))==[100,105,115,99,97,114,100]):=by rw[zAe]
 go_enter Tryz.func177,Tryz.ntmps177;go_wp2_with fail;refine(wprefix_any b B p _ H.out.st (H.out.env HE.out) HS.out).mono ?_;rintro e w1 ⟨rfl,h1,k1⟩;have H1:=hid (H.out.word h1 k1);clear h1 k1;go_wp2_with (refine zAd rfl _ _ _ rfl rfl (ds:=Sr.C ⟨(pxV p).1,(pxV p).2,0,[],false,1,0⟩) rfl (HasC.new _ _ _) rfl Tryz.sizeSr (Sr.one ⟨(pxV p).1,(pxV p).2,0,[],false,1,0⟩) ?_;intro w2 hx hg;have H2:=hid (RL.start H1.out hx hg);clear hx hg);refine(zFp b B (pxS p) _ H2.out.base.st).mono ?_;rintro e w3 ⟨rfl,h3,k3⟩;have H3:=hid (H2.out.word h3 k3);clear h3 k3;unfold strV;have HS1:=hid (short_wS (short_px HS.out));go_upto_block 0 with(fail)
 go_cut [] (fun wx=>RL 166 185 g b B w0 (AlC a v) (AlR a v) (stA p).2 109 w1.heap.size (Sr.C (stA p).1) wx)
 case first=>
  cases e0:(wV (pxS p)==[118,105,97])with
  |true=>
   rw[e0]at q0;have EC:Hid (stA p=(⟨(pxV p).1,(pxV p).2,adV (wS (pxS p)),[],false,1,0⟩,adS (wS (pxS p)))):=hid (by unfold stA;simp only[e0,if_true]);go_wp2_with fail;refine(waddress_any b B (wS (pxS p)) _ H3.out.base.st (H3.out.env HE.out) HS1.out).mono ?_;rintro e w4 ⟨rfl,h4,k4⟩;have H4:=hid (H3.out.word h4 k4);clear h4 k4;obtain⟨y2,c2⟩:=H4.out.lsome (j:=2) (show 2<7 from by decide);have fz:=H4.out.lfrz;go_wp2;go_meet;rw[EC.out];exact(H4.out.put 2 _ rfl)
  |false=>
   rw[e0]at q0;cases e1:(wV (pxS p)==[105,110,116,101,114,102,97,99,101])with
   |true=>
    rw[e1]at q1;have EC:Hid (stA p=(⟨(pxV p).1,(pxV p).2,0,nmV (wS (pxS p)),false,1,0⟩,nmS (wS (pxS p)))):=hid (by unfold stA;simp only[e0,e1,if_true,Bool.false_eq_true,if_false]);go_wp2_with fail;refine(zGu b B (wS (pxS p)) _ H3.out.base.st).mono ?_;rintro e w4 ⟨rfl,h4,k4⟩;have H4:=hid (H3.out.word h4 k4);clear h4 k4;unfold strV;obtain⟨y3,c3⟩:=H4.out.lsome (j:=3) (show 3<7 from by decide);have fz:=H4.out.lfrz;go_wp2;go_meet;rw[EC.out];exact(H4.out.put 3 _ rfl)
   |false=>
    rw[e1]at q1;cases e2:(wV (pxS p)==[100,105,115,99,97,114,100])with
    |true=>
     rw[e2]at q2;have EC:Hid (stA p=(⟨(pxV p).1,(pxV p).2,0,[],true,1,0⟩,(wS (pxS p)))):=hid (by unfold stA;simp only[e0,e1,e2,if_true,Bool.false_eq_true,if_false]);obtain⟨y4,c4⟩:=H3.out.lsome (j:=4) (show 4<7 from by decide);have fz:=H3.out.lfrz;go_wp2;go_meet;rw[EC.out];exact(H3.out.put 4 _ rfl)
    |false=>
     rw[e2]at q2;have EC:Hid (stA p=(⟨(pxV p).1,(pxV p).2,0,[],false,1,0⟩,((wS (pxS p))).fail)):=hid (by unfold stA;simp only[e0,e1,e2,Bool.false_eq_true,if_false]);have fb:=H3.out.base.st.frz 1;have cb:=H3.out.base.st.bad1;go_wp2;go_meet;rw[EC.out];exact H3.out.bad
 case rest=>
  have MX:=hid hcut;clear hcut;go_wp2_with fail;refine(zEs b B (stA p).2 [97,100,109,105,110] _ MX.out.base.st).mono ?_;rintro e w5 ⟨rfl,h5,k5⟩;have H5:=hid (MX.out.word h5 k5);clear h5 k5;go_upto_if 27 with fail
  go_cut [] (fun wx=>RL 166 185 g b B w0 (AlC a v) (AlR a v) (stB (stA p)).2 109 w1.heap.size (Sr.C (stB (stA p)).1) wx)
  case first=>
   cases c:isW [97,100,109,105,110] (stA p).2 with
   |true=>
    have EC:Hid (stB (stA p)=({ (stA p).1 with admin:=noV 1 255 (optS [97,100,109,105,110] (stA p).2) },noS 1 255 (optS [97,100,109,105,110] (stA p).2))):=hid (if_pos c);clear c;go_wp2_with fail;refine(zEr b B (optS [97,100,109,105,110] (stA p).2) 1 255 _ H5.out.base.st).mono ?_;rintro e w6 ⟨rfl,h6,k6⟩;have H6:=hid (H5.out.word h6 k6);clear h6 k6;obtain⟨y5,c5⟩:=H6.out.lsome (j:=5) (show 5<7 from by decide);have fz:=H6.out.lfrz;go_wp2;go_meet;rw[EC.out];exact(H6.out.put 5 _ rfl)
   |false=>
    have EC:Hid (stB (stA p)=(stA p)):=hid (if_neg (by rw[c];decide));have EO:=optS_no c;rw[EO]at H5;clear c EO;go_wp2;go_meet;rw[EC.out];exact H5.out
  case rest=>
   replace MX:=hid hcut;clear hcut;go_wp2_with fail;refine(zEs b B (stB (stA p)).2 [116,97,103] _ MX.out.base.st).mono ?_;rintro e w5 ⟨rfl,h5,k5⟩;have H5:=hid (MX.out.word h5 k5);clear h5 k5;go_upto_if 32 with fail
   go_cut [] (fun wx=>RL 166 185 g b B w0 (AlC a v) (AlR a v) (stC (stB (stA p))).2 109 w1.heap.size (Sr.C (stC (stB (stA p))).1) wx)
   case first=>
    cases c:isW [116,97,103] (stB (stA p)).2 with
    |true=>
     have EC:Hid (stC (stB (stA p))=({ (stB (stA p)).1 with tag:=noV 0 65535 (optS [116,97,103] (stB (stA p)).2) },noS 0 65535 (optS [116,97,103] (stB (stA p)).2))):=hid (if_pos c);clear c;go_wp2_with fail;refine(zEr b B (optS [116,97,103] (stB (stA p)).2) 0 65535 _ H5.out.base.st).mono ?_;rintro e w6 ⟨rfl,h6,k6⟩;have H6:=hid (H5.out.word h6 k6);clear h6 k6;obtain⟨y6,c6⟩:=H6.out.lsome (j:=6) (show 6<7 from by decide);have fz:=H6.out.lfrz;go_wp2;go_meet;rw[EC.out];exact(H6.out.put 6 _ rfl)
    |false=>
     have EC:Hid (stC (stB (stA p))=(stB (stA p))):=hid (if_neg (by rw[c];decide));have EO:=optS_no c;rw[EO]at H5;clear c EO;go_wp2;go_meet;rw[EC.out];exact H5.out
   case rest=>
    replace MX:=hid hcut;clear hcut;obtain⟨⟨x,q⟩,hxq⟩:∃tp,tp=zEt p:=⟨_,rfl⟩;rw[←pStatic_st,←hxq]at MX;have HXQ:=hid hxq;clear hxq;have cr:wc.cell? ⟨g,7,none⟩=.some v.stat:=MX.out.base.cell 7;go_wp2_with fail;have cx0:wc.cell? ⟨w1.heap.size,0,none⟩=.some (.int .u32 (x.pa:Int)):=MX.out.loc.cell 0;have cx1:wc.cell? ⟨w1.heap.size,1,none⟩=.some (.int .i64 x.pl):=MX.out.loc.cell 1;have cx2:wc.cell? ⟨w1.heap.size,2,none⟩=.some (.int .u32 (x.next:Int)):=MX.out.loc.cell 2;have cx3:wc.cell? ⟨w1.heap.size,3,none⟩=.some (strV x.iface):=MX.out.loc.cell 3;have cx4:wc.cell? ⟨w1.heap.size,4,none⟩=.some (.bool x.discard):=MX.out.loc.cell 4;have cx5:wc.cell? ⟨w1.heap.size,5,none⟩=.some (.int .i64 x.admin):=MX.out.loc.cell 5;have cx6:wc.cell? ⟨w1.heap.size,6,none⟩=.some (.int .i64 x.tag):=MX.out.loc.cell 6;have HD:=hid (MX.out.keep (drew_below wc));go_region_law (go_simp;go_at_call 220;refine(repSr (pre:=(AlR a v).take 2) (post:=(AlR a v).drop 3) a.stat x HD.out HK.out.stat.1).mono ?_;rintro e wz ⟨v5,rfl,h5⟩;obtain⟨A5,n5,d5,rfl⟩:=h5.form;have H5:=hid h5;clear h5;obtain⟨y7,c7⟩:=H5.out.some (j:=7) (show 7<31 from by decide);have fz:=H5.out.frz)
    all_goals
     go_wp2_with fail;go_end0;rw[←HXQ.out];exact⟨rfl,{ v with stat:=.slice A5 n5 d5 },H5.out.put 7 _ rfl,HL.out,HI.out,HC.out⟩
end Go.Proofs.YthcnojmldldpeaaGreatDoor
namespace Go.Proofs.YthcnojmldldpeaaGreatDoor
open Lib (hid)
open Go.RowKit
end Go.Proofs.YthcnojmldldpeaaGreatDoor
namespace Go.Proofs.YthcnojmldldpeaaGreatDoor
open Lib (hid)
open Go.RowKit
end Go.Proofs.YthcnojmldldpeaaGreatDoor
namespace Go.Proofs.YthcnojmldldpeaaGreatDoor
open Lib (hid)
open Go.RowKit
end Go.Proofs.YthcnojmldldpeaaGreatDoor
namespace Go.Proofs.YthcnojmldldpeaaGreatDoor
open Lib (hid)
open Go.RowKit
def rtZ(a:Al)(v:Av):Rt where
 name:=a.name
 asn:=a.asn
 ifsV:=v.ifs
 listsV:=.slice none 0 0
 mapsV:=.slice none 0 0
 aclsV:=.slice none 0 0
 natV:=v.nat
 statV:=v.stat
 lsOn:=a.lsOn
 lsAdmin:=a.lsAdmin
 rangesV:=v.ranges
 lsRedV:=v.lsRed
 dvOn:=a.dvOn
 dvAdmin:=a.dvAdmin
 dvIn:=a.dvIn
 dvOut:=a.dvOut
 dvRedV:=v.dvRed
 pvOn:=a.pvOn
 ext:=a.ext
 int:=a.int
 nbV:=v.nb
 netV:=v.net
 agV:=v.ag
 cdV:=v.cd
 pvRedV:=v.pvRed
 ifs:=a.ifs
 lists:=[]
 maps:=[]
 acls:=[]
 nat:=a.nat
 stat:=a.stat
 ranges:=a.ranges
 lsRed:=a.lsRed
 dvRed:=a.dvRed
 nb:=a.nb
 net:=a.net
 ag:=a.ag
 cd:=a.cd
 pvRed:=a.pvRed
theorem rtZ_C(a:Al)(v:Av):(AlC a v).extract 0 25=(rtZ a v).C:=by
 unfold AlC rtZ Rt.C;simp only[List.extract_toArray,List.extract_eq_take_drop,List.drop_zero,Nat.sub_zero,List.take_succ_cons,List.take_zero]
section
variable {g b B : Nat} {w0 w : World} {a : Al} {v : Av} {p : Ps}
theorem RS.own' {E T:TypeId}{cs:Array Value}{rs:List Orow}(h:RS E T g b B w0 cs rs p w){α:Type}{Te:TypeId}{n:Nat}{cells:α→Array Value}{x:Value}{l:List α}(hm:rowE Te n cells x l∈rs):OwnE w B Te n cells x l:=h.own.1 _ hm
theorem RS.rtZ(h:RS 166 185 g b B w0 (AlC a v) (AlR a v) p w):(rtZ a v).at w w.heap.size where
 hifs:=OwnE.slv (v:=v.ifs) (l:=a.ifs) (T:=68) (h.own' (by simp[AlR]))
 hlists:=(OwnE.nil (B:=0) (T:=0) (n:=2) (cells:=PList.C)).slv
 nlists:=fun _ h=>by cases h
 hmaps:=(OwnE.nil (B:=0) (T:=0) (n:=2) (cells:=RMap.C)).slv
 nmaps:=fun _ h=>by cases h
 hacls:=(OwnE.nil (B:=0) (T:=0) (n:=2) (cells:=AList.C)).slv
 nacls:=fun _ h=>by cases h
 hnat:=OwnE.slv (v:=v.nat) (l:=a.nat) (T:=106) (h.own' (by simp[AlR]))
 hstat:=OwnE.slv (v:=v.stat) (l:=a.stat) (T:=109) (h.own' (by simp[AlR]))
 hranges:=OwnE.slv (v:=v.ranges) (l:=a.ranges) (T:=112) (h.own' (by simp[AlR]))
 hlsRed:=OwnE.slv (v:=v.lsRed) (l:=a.lsRed) (T:=149) (h.own' (by simp[AlR]))
 hdvRed:=OwnE.slv (v:=v.dvRed) (l:=a.dvRed) (T:=149) (h.own' (by simp[AlR]))
 hnb:=OwnE.slv (v:=v.nb) (l:=a.nb) (T:=115) (h.own' (by simp[AlR]))
 hnet:=OwnE.slv (v:=v.net) (l:=a.net) (T:=90) (h.own' (by simp[AlR]))
 hag:=OwnE.slv (v:=v.ag) (l:=a.ag) (T:=117) (h.own' (by simp[AlR]))
 hcd:=OwnE.slv (v:=v.cd) (l:=a.cd) (T:=119) (h.own' (by simp[AlR]))
 hpvRed:=OwnE.slv (v:=v.pvRed) (l:=a.pvRed) (T:=149) (h.own' (by simp[AlR]))
theorem RS.rtR{T:TypeId}{rs:List Orow}(h:RS 166 T g b B w0 (AlC a v) rs p w):w.rangeAt g 0 (Go.Proofs.YthcnojmldldpeaaGreatDoor.rtZ a v).C.toList:=by
 have:=World.rangeAt_of_block h.has 0 25
 rwa [Nat.zero_add,rtZ_C]at this
end
theorem find_ifs(nm:List UInt8)(l:List If):(idxF (fun x=>x.name==nm) l 0 = -1∧findI nm l=l.length)∨∃k,k<l.length∧idxF (fun x=>x.name==nm) l 0=(k:Int)∧findI nm l=k:=by
 have h:∀(l:List If) (j:Nat),(idxF (fun x=>x.name==nm) l j = -1∧findI nm l=l.length)∨∃k,k<l.length∧idxF (fun x=>x.name==nm) l j=((j+k:Nat):Int)∧findI nm l=k:=by
  intro l;induction l with
  |nil=>intro j;exact .inl ⟨rfl,rfl⟩
  |cons m r ih=>
   intro j;have hd:findI nm (m :: r)=if m.name==nm then 0 else findI nm r+1:=rfl
   unfold idxF;rw[hd];cases hm:(m.name==nm)with
   |true=>exact .inr ⟨0,by simp,by simp,by simp⟩
   |false=>
    rcases ih (j+1)with⟨h1,h2⟩|⟨k,h1,h2,h3⟩
    ·exact .inl ⟨by simpa using h1,by simp[h2]⟩
    ·refine .inr ⟨k+1,by simp only[List.length_cons];omega,?_,by simp[h3]⟩
     simp only[Bool.false_eq_true,if_false];rw[h2]
     congr 1
     omega
 rcases h l 0 with h1|⟨k,h1,h2,h3⟩
 ·exact .inl h1
 ·exact .inr ⟨k,h1,by simpa using h2,h3⟩
theorem Tryz.infoIf:(Tryz.prog.info? 68).map (fun i=>(i.zero.map (fun z=>z.cells.size),i.size,i.bytes))=some (some 12,12,112):=by kernel_rfl
theorem zJj(g b B:Nat)(w0:World)(a:Al)(name:List UInt8)(p:Ps)(w:World)(h:RA g b B w0 a p w)(hk:AlOk 1000000 a) :
  Calls Tryz.prog 172 #[.pointer (some ⟨g,0,none⟩),.string (str name)] w (APost g b B w0 (zDp name a) p):=by
 obtain⟨v,h,hl,-,-⟩:=h;have HO:OwnE w B 68 12 If.C v.ifs a.ifs:=h.own' (by simp[AlR]);obtain⟨A0,c0,e0,-⟩:=HO.slv;have H:=hid h;have HK:=hid hk;have HL:=hid hl;have HZ:=hid h.rtZ;have HR:=hid h.rtR;have HF:=hid (find_ifs name a.ifs);have HE0:=hid e0;clear h hk hl HO e0;go_enter Tryz.func172,Tryz.ntmps172;go_wp2_with (refine zAa rfl _ _ rfl rfl HR.out Tryz.rowRt Tryz.sizeRt ?_);refine(zGs (rtZ a v) name _ w.heap.size HZ.out (Nat.le_refl _)).mono ?_;rintro e w1 ⟨rfl,hb1⟩;have H1:=hid (H.out.keep hb1);clear hb1 HZ HR;rw[show(rtZ a v).ifs=a.ifs from rfl];generalize idxF (fun x=>x.name==name) a.ifs 0=kk at HF⊢;go_upto_if 12 with(fail)
 go_cut [4] (fun k0 wx=>∃V:Value,k0=.int .i64 ((zDp name a).iface:Int)∧RS 166 185 g b B w0 (AlC { a with ifs:=(zDp name a).ifs } { v with ifs:=V }) (AlR { a with ifs:=(zDp name a).ifs } { v with ifs:=V }) p wx∧(zDp name a).iface<(zDp name a).ifs.length)
 case first=>
  rcases HF.out with⟨rfl,e2⟩|⟨k,hkl,rfl,e2⟩
  ·have E:Hid (zDp name a={ a with ifs:=a.ifs++[ifZ name],block:=1,iface:=a.ifs.length }):=hid (by unfold zDp;rw[if_neg (by omega)])
   have HO1:OwnE w1 B 68 12 If.C v.ifs a.ifs:=H1.out.own' (by simp[AlR]);obtain⟨A5,m5,c5,w5,hr,ho5,hg5,hn5⟩:=HO1.push (P:=Tryz.prog) (by have:=H1.out.size;have:=H1.out.bB;omega) Tryz.underlying22 Tryz.infoIf (by decide) (fun _=>rfl) (ifZ name) (If.one _) (by have:=HK.out.ifs.1;omega) (by decide) 22;have R5:RS 166 185 g b B w0 (AlC a v) ((AlR a v).take 0++rowE 68 12 If.C (.slice A5 m5 c5) (a.ifs++[ifZ name]) :: (AlR a v).drop 1) p w5:=RS.row (r:=rowE 68 12 If.C v.ifs a.ifs) (r' := rowE 68 12 If.C (.slice A5 m5 c5) (a.ifs++[ifZ name])) H1.out hg5 ho5 hn5;have H5:=hid R5;rw[HE0.out]at hr;have HR:=hid hr;have c2:w1.cell? ⟨g,2,none⟩=.some (.slice A0 a.ifs.length c0):=by rw[←HE0.out];exact H1.out.cell 2
   obtain⟨y2,d2⟩:=H5.out.some (j:=2) (show 2<31 from by decide);have fz:=H5.out.frz;clear R5 hr ho5 hg5 hn5 HO1 e2;go_wp2_with (at_builtin;refine Lib.wpList_append_run _ rfl _ _ _ _ rfl _ _ rfl rfl _ _ HR.out ?_);go_meet;rw[E.out];exact⟨.slice A5 m5 c5,rfl,H5.out.put 2 _ rfl,by simp⟩
  ·have E:Hid (zDp name a={ a with block:=1,iface:=k }):=hid (by unfold zDp;rw[if_pos (by omega),e2])
   have hk0:¬((k:Int)<0):=by omega
   clear e2;go_wp2;go_meet;rw[E.out];exact⟨v.ifs,rfl,H1.out,hkl⟩
 case rest=>
  obtain⟨V,rfl,R,hlt⟩:=hcut;have hO:OwnE wc B 68 12 If.C V (zDp name a).ifs:=R.own' (by simp[AlR]);obtain⟨gg,cap,cur,rfl,-⟩:=hO.part (by decide) (fun _=>rfl) hlt;have c2:wc.drew.cell? ⟨g,2,none⟩=.some (.slice (some ⟨gg,0,none⟩) (zDp name a).ifs.length cap):=R.cell 2;obtain⟨y28,c28⟩:=R.some (j:=28) (show 28<31 from by decide);obtain⟨y29,c29⟩:=R.some (j:=29) (show 29<31 from by decide);have fz:=R.frz;have HR:=hid (R.keep (drew_below wc));have hk0:(0:Int)≤((zDp name a).iface:Int):=by omega
  have hkz:((zDp name a).iface:Int)<((zDp name a).ifs.length:Int):=by omega
  have E:Hid (zDp name a={ a with ifs:=(zDp name a).ifs,block:=1,iface:=(zDp name a).iface }):=hid (by unfold zDp;split<;>rfl);have c28' : wc.drew.cell? ⟨g,28,none⟩=.some y28:=c28;have c29' : wc.drew.cell? ⟨g,29,none⟩=.some y29:=c29;have fz' :∀j,wc.drew.frozen? ⟨g,j,none⟩=false:=fz;clear R hO HF;generalize (zDp name a).ifs=L at *;generalize (zDp name a).iface=K at *;go_wp2_with fail;go_region_law (fail)
  all_goals
   go_wp2_with fail;go_end0;rw[E.out];exact⟨rfl,{ v with ifs:=.slice (some ⟨gg,0,none⟩) L.length cap,ifp:=.pointer (some ⟨gg,K*12,none⟩) },(HR.out.put 28 _ rfl).put 29 _ rfl,HL.out,fun _=>⟨gg,cap,rfl,rfl⟩,fun h=>absurd (show(1:Int)=2 from h) (by decide)⟩
theorem RA.word{g b B:Nat}{w0 w w' : World}{a:Al}{p p' : Ps}(h:RA g b B w0 a p w)(hs:WSt 185 b B p' w')(hg:w.grownBy w' (some b)):RA g b B w0 a p' w' := by
 obtain⟨v,h,hr⟩:=h;exact⟨v,h.word hs hg,hr⟩
theorem RA.bad{g b B:Nat}{w0 w:World}{a:Al}{p:Ps}(h:RA g b B w0 a p w):RA g b B w0 a p.fail (w.setCell ⟨b,1,none⟩ (.bool true)):=by
 obtain⟨v,h,hr⟩:=h;exact⟨v,h.bad,hr⟩
theorem RA.st{g b B:Nat}{w0 w:World}{a:Al}{p:Ps}(h:RA g b B w0 a p w):WSt 185 b B p w:=by
 obtain⟨v,h,hr⟩:=h;exact h.st
def EsG(w:List UInt8):Prop:=w=[104,111,115,116,110,97,109,101]∨w=[105,110,116,101,114,102,97,99,101]∨w=[114,111,117,116,101]∨w=[97,100,100,114,101,115,115]
theorem zKa(block:Int)(word:List UInt8)(hw:EsG word∨word=[115,104,117,116,100,111,119,110])(w:World):Calls Tryz.prog 143 #[.int .i64 block,.string (str word)] w fun e w' => e=.returned (.bool (belB block word))∧w' = w:=by
 have q:∀y,((str word).toList==y)=(word==y):=fun y=>by rw[zAe]
 have hb:block=1∨block=2∨block=3∨block=4∨block=5∨(block≠1∧block≠2∧block≠3∧block≠4∧block≠5):=by omega
 rcases hb with rfl|rfl|rfl|rfl|rfl|⟨b1,b2,b3,b4,b5⟩
 rotate_left 5
 ·have d1:(block==1)=false:=by simpa using b1
  have d2:(block==2)=false:=by simpa using b2
  have d3:(block==3)=false:=by simpa using b3
  have d4:(block==4)=false:=by simpa using b4
  have d5:(block==5)=false:=by simpa using b5
  have E:Hid (belB block word=false):=hid (by unfold belB;rw[if_neg b1,if_neg b2,if_neg (fun h=>h.elim b3 (fun h=>h.elim b4 b5))]);clear q hw;go_enter Tryz.func143,Tryz.ntmps143;go_wp2;go_ret;exact⟨zAg E.out.symm,rfl⟩
 all_goals
  rcases hw with(rfl|rfl|rfl|rfl)|rfl
  all_goals
   go_enter Tryz.func143,Tryz.ntmps143;go_wp2;go_ret;exact⟨rfl,rfl⟩
theorem easy_block{block:Int}{word:List UInt8}(hw:EsG word∨word=[115,104,117,116,100,111,119,110])(h:belB block word=true):block=1:=by
 unfold belB at h;split at h
 ·assumption
 ·split at h
  ·rcases hw with(rfl|rfl|rfl|rfl)|rfl<;>cases h
  ·split at h
   ·rcases hw with(rfl|rfl|rfl|rfl)|rfl<;>cases h
   ·cases h
theorem inner_easy(g b B:Nat)(w0:World)(a:Al)(word:List UInt8)(no:Bool)(p:Ps)(w:World)(h:RA g b B w0 a p w)(hk:AlOk 1000000 a)(he:EnvA B w0)(hs:p.short)(b1:a.block=1) :
  Calls Tryz.prog 144 #[.pointer (some ⟨g,0,none⟩),.string (str word),.bool no,.pointer (some ⟨b,0,none⟩)] w (APost g b B w0 (innS word no a p).1 (innS word no a p).2):=by
 have c28:w.cell? ⟨g,28,none⟩=.some (.int .i64 a.block):=by obtain⟨v,h,-⟩:=h;exact h.cell 28
 obtain⟨v,h,hl,hI,-⟩:=h;obtain⟨gg,cap,hv,hp⟩:=hI b1;rw[b1]at c28;have hlt:=hk.iface b1;have HO:OwnE w B 68 12 If.C v.ifs a.ifs:=h.own' (by simp[AlR]);obtain⟨gg', cap', cur,e,hB,hpt,hput⟩:=HO.part (by decide) (fun _=>rfl) hlt;rw[hv]at e;injection e with e1 _ _
 injection e1 with e1
 injection e1 with e1 _ _
 subst e1;have hget:a.ifs[a.iface]=ifGet a:=by unfold ifGet;rw[List.getElem?_eq_getElem hlt];rfl
 rw[hget]at hpt;have hown:(rowE 68 12 If.C v.ifs a.ifs).v.ownBlock=some gg:=by show v.ifs.ownBlock=_;rw[hv];rfl
 have hgb:gg≠b:=fun e=>h.br (List.mem_filterMap.2 ⟨rowE 68 12 If.C v.ifs a.ifs,by simp[AlR],by rw[hown,e]⟩)
 have HC:=hid (zHk gg (a.iface*12) b B cur (ifGet a) word no p w (Cm.start hpt h.st hgb hB) (h.env he) hs);have c29:w.cell? ⟨g,29,none⟩=.some (.pointer (some ⟨gg,a.iface*12,none⟩)):=by rw[←hp];exact h.cell 29
 have E:Hid (innS word no a p=({ a with ifs:=zDb a.ifs a.iface (ifCmd (ifGet a) word no p).1 },(ifCmd (ifGet a) word no p).2)):=hid (by unfold innS;rw[if_pos b1]);have H:=hid h;have HL:=hid hl;have HV:=hid hv;have HP:=hid hp;have HPut:=hid hput;have HLT:=hid hlt;have HOwn:=hid hown;have HB1:=hid b1;clear h hl hI hv hp hput hlt hown b1 HO hpt hget hk he hs;go_enter Tryz.func144,Tryz.ntmps144;go_wp2_with fail;refine HC.out.mono ?_;rintro e w1 ⟨rfl,hc⟩
 have R:=RS.swap (pre:=[]) (X:=[rowE 68 12 If.C v.ifs a.ifs]) (X' := [rowE 68 12 If.C v.ifs (zDb a.ifs a.iface (ifCmd (ifGet a) word no p).1)]) (post:=(AlR a v).drop 1) H.out (hc.fr.mono (fun k hk=>by
   simp only[List.mem_cons,List.not_mem_nil,or_false]at hk;rcases hk with rfl|rfl
   ·exact List.mem_cons_of_mem _ (List.mem_filterMap.2 ⟨_,List.mem_singleton.2 rfl,HOwn.out⟩)
   ·exact List.mem_cons_self)) hc.st ⟨fun r hr=>by obtain rfl:=List.mem_singleton.1 hr;exact HPut.out _ _ hc.part.1,by rw[List.filterMap_cons];split<;>simp⟩ (fun k hk=>.inl hk)
 have HR:=hid R;clear R hc;go_wp2_with fail;go_end0;rw[E.out];exact⟨rfl,v,HR.out,HL.out,fun _=>⟨gg,cap,by show _=Value.slice _ (zDb a.ifs a.iface _).length _;rw[zDl HLT.out];exact HV.out,HP.out⟩,fun h=>absurd ((show a.block=2 from h).symm.trans HB1.out) (by decide)⟩
theorem global_easy(g b B:Nat)(w0:World)(a:Al)(word:List UInt8)(p:Ps)(w:World)(h:RA g b B w0 a p w)(hk:AlOk 1000000 a)(he:EnvA B w0)(hs:p.short)(hb:a.block=0)(hw:EsG word) :
  Calls Tryz.prog 146 #[.pointer (some ⟨g,0,none⟩),.string (str word),.pointer (some ⟨b,0,none⟩)] w (APost g b B w0 (globS word a p).1 (globS word a p).2):=by
 have HA:=hid h;have HE:=hid he;have HS:=hid hs;have HK:=hid hk;have HB0:=hid hb;clear h he hs hk hb;rcases hw with rfl|rfl|rfl|rfl
 ·have q0:((str [104,111,115,116,110,97,109,101]).toList==[104,111,115,116,110,97,109,101])=true:=by rw[zAe];rfl
  have E:Hid (globS [104,111,115,116,110,97,109,101] a p=({ a with name:=nmV p },nmS p)):=hid (rfl);obtain⟨v,h,hl,hI,hC⟩:=HA.out;have H:=hid h;have HL:=hid hl;have HI:=hid hI;have HC:=hid hC;clear h hl hI hC;go_enter Tryz.func146,Tryz.ntmps146;go_wp2_with fail;refine(zGu b B p _ H.out.st).mono ?_;rintro e w1 ⟨rfl,h1,k1⟩;have H1:=hid (H.out.word h1 k1);clear h1 k1;unfold strV;obtain⟨y0,c0⟩:=H1.out.some (j:=0) (show 0<31 from by decide);have fz:=H1.out.frz;go_wp2_with fail;go_end0;rw[E.out];exact⟨rfl,v,(H1.out.put 0 _ rfl),HL.out,HI.out,HC.out⟩
 ·have q0:((str [105,110,116,101,114,102,97,99,101]).toList==[104,111,115,116,110,97,109,101])=false:=by rw[zAe];rfl
  have q1:((str [105,110,116,101,114,102,97,99,101]).toList==[97,115])=false:=by rw[zAe];rfl
  have q2:((str [105,110,116,101,114,102,97,99,101]).toList==[105,110,116,101,114,102,97,99,101])=true:=by rw[zAe];rfl
  have E:Hid (globS [105,110,116,101,114,102,97,99,101] a p=(zDp (nmV p) a,nmS p)):=hid (rfl);go_enter Tryz.func146,Tryz.ntmps146;go_wp2_with fail;refine(zGu b B p _ HA.out.st).mono ?_;rintro e w1 ⟨rfl,h1,k1⟩;have H1:=hid (HA.out.word h1 k1);clear h1 k1;unfold strV;go_wp2_with fail;refine(zJj g b B w0 a (nmV p) (nmS p) _ H1.out HK.out).mono ?_;rintro e wz ⟨rfl,hz⟩;have HZ:=hid hz;clear hz;go_wp2_with fail;go_end0;rw[E.out];exact⟨rfl,HZ.out⟩
 ·have q0:((str [114,111,117,116,101]).toList==[104,111,115,116,110,97,109,101])=false:=by rw[zAe];rfl
  have q1:((str [114,111,117,116,101]).toList==[97,115])=false:=by rw[zAe];rfl
  have q2:((str [114,111,117,116,101]).toList==[105,110,116,101,114,102,97,99,101])=false:=by rw[zAe];rfl
  have q3:((str [114,111,117,116,101]).toList==[112,114,101,102,105,120,45,108,105,115,116])=false:=by rw[zAe];rfl
  have q4:((str [114,111,117,116,101]).toList==[114,111,117,116,101,45,109,97,112])=false:=by rw[zAe];rfl
  have q5:((str [114,111,117,116,101]).toList==[97,99,99,101,115,115,45,108,105,115,116])=false:=by rw[zAe];rfl
  have q6:((str [114,111,117,116,101]).toList==[110,97,116])=false:=by rw[zAe];rfl
  have q7:((str [114,111,117,116,101]).toList==[114,111,117,116,101])=true:=by rw[zAe];rfl
  have E:Hid (globS [114,111,117,116,101] a p=({ a with stat:=replL (likeSr (zEt p).1) (zEt p).1 a.stat },(zEt p).2)):=hid (rfl);go_enter Tryz.func146,Tryz.ntmps146;go_wp2_with fail;refine(static_any g b B w0 a p w HA.out (HK.out.up (by decide)) HE.out HS.out).mono ?_;rintro e wz ⟨rfl,hz⟩;have HZ:=hid hz;clear hz;go_wp2_with fail;go_end0;rw[E.out];exact⟨rfl,HZ.out⟩
 ·have q0:((str [97,100,100,114,101,115,115]).toList==[104,111,115,116,110,97,109,101])=false:=by rw[zAe];rfl
  have q1:((str [97,100,100,114,101,115,115]).toList==[97,115])=false:=by rw[zAe];rfl
  have q2:((str [97,100,100,114,101,115,115]).toList==[105,110,116,101,114,102,97,99,101])=false:=by rw[zAe];rfl
  have q3:((str [97,100,100,114,101,115,115]).toList==[112,114,101,102,105,120,45,108,105,115,116])=false:=by rw[zAe];rfl
  have q4:((str [97,100,100,114,101,115,115]).toList==[114,111,117,116,101,45,109,97,112])=false:=by rw[zAe];rfl
  have q5:((str [97,100,100,114,101,115,115]).toList==[97,99,99,101,115,115,45,108,105,115,116])=false:=by rw[zAe];rfl
  have q6:((str [97,100,100,114,101,115,115]).toList==[110,97,116])=false:=by rw[zAe];rfl
  have q7:((str [97,100,100,114,101,115,115]).toList==[114,111,117,116,101])=false:=by rw[zAe];rfl
  have q8:((str [97,100,100,114,101,115,115]).toList==[114,111,117,116,101,114])=false:=by rw[zAe];rfl
  have E:Hid (globS [97,100,100,114,101,115,115] a p=(a,p.fail)):=hid rfl;have fb:=HA.out.st.frz 1;have cb:=HA.out.st.bad1;go_enter Tryz.func146,Tryz.ntmps146;go_wp2_with fail;go_end0;rw[E.out];exact⟨rfl,HA.out.bad⟩
theorem remove_easy(g b B:Nat)(w0:World)(a:Al)(word:List UInt8)(p:Ps)(w:World)(h:RA g b B w0 a p w)(hw:word=[115,104,117,116,100,111,119,110]) :
  Calls Tryz.prog 145 #[.pointer (some ⟨g,0,none⟩),.string (str word),.pointer (some ⟨b,0,none⟩)] w (APost g b B w0 (remS word a p).1 (remS word a p).2):=by
 subst hw;have HA:=hid h;clear h;have E:Hid (remS [115,104,117,116,100,111,119,110] a p=(a,p.fail)):=hid rfl;have q0:((str [115,104,117,116,100,111,119,110]).toList==[97,115])=false:=by rw[zAe];rfl
 have q1:((str [115,104,117,116,100,111,119,110]).toList==[105,110,116,101,114,102,97,99,101])=false:=by rw[zAe];rfl
 have q2:((str [115,104,117,116,100,111,119,110]).toList==[112,114,101,102,105,120,45,108,105,115,116])=false:=by rw[zAe];rfl
 have q3:((str [115,104,117,116,100,111,119,110]).toList==[114,111,117,116,101,45,109,97,112])=false:=by rw[zAe];rfl
 have q4:((str [115,104,117,116,100,111,119,110]).toList==[97,99,99,101,115,115,45,108,105,115,116])=false:=by rw[zAe];rfl
 have q5:((str [115,104,117,116,100,111,119,110]).toList==[110,97,116])=false:=by rw[zAe];rfl
 have q6:((str [115,104,117,116,100,111,119,110]).toList==[114,111,117,116,101])=false:=by rw[zAe];rfl
 have q7:((str [115,104,117,116,100,111,119,110]).toList==[114,111,117,116,101,114])=false:=by rw[zAe];rfl
 have fb:=HA.out.st.frz 1;have cb:=HA.out.st.bad1;go_enter Tryz.func145,Tryz.ntmps145;go_wp2_with fail;go_end0;rw[E.out];exact⟨rfl,HA.out.bad⟩
def FsV(w:World)(B:Nat)(v:Value)(fs:List (List UInt8)):Prop:=∃A c,v=.slice A fs.length c∧fs.length≤c∧Slc w B 1 v fs.length (fs.map strV)
theorem FsV.below{w w' : World}{B:Nat}{v:Value}{fs:List (List UInt8)}(h:FsV w B v fs)(hb:Below B w w'):FsV w' B v fs:=by
 obtain⟨A,c,e,h1,h2⟩:=h;exact⟨A,c,e,h1,h2.below hb⟩
theorem FsV.pop{w:World}{B:Nat}{v:Value}{f:List UInt8}{r:List (List UInt8)}(h:FsV w B v (f :: r)) :
  ∃g o c,v=.slice (some ⟨g,o,none⟩) (r.length+1) c∧w.cell? ⟨g,o,none⟩=some (.string (str f))∧r.length+1≤c∧r.length+1≤9223372036854775807 ∧
   ∀A', (c≠1→A' = some ⟨g,o+1,none⟩)→A' ≠ none→FsV w B (.slice A' r.length (c - 1)) r:=by
 obtain⟨A,c,rfl,hc,hs⟩:=h;obtain⟨A0,c0,e,hm,hl,hA,hx⟩:=hs;cases e
 obtain⟨g,o,rfl,hg,hcell⟩:=hx (by simp);refine⟨g,o,c,rfl,by show w.cell? ⟨g,o,none⟩=some (strV f);simpa using hcell 0 (strV f) rfl,by simpa using hc,by simp only[maxLen,List.length_cons]at hm;omega,fun A' hA' hn=>⟨A', c - 1,rfl,?_,A', c - 1,rfl,?_,by simp,fun h=>absurd h hn,fun hr=>⟨g,o+1,hA' ?_,hg,fun j u hu=>?_⟩⟩⟩
 ·simp only[List.length_cons]at hc;omega
 ·simp only[List.length_cons]at hm;omega
 ·simp only[List.length_cons]at hc;omega
 ·have:=hcell (j+1) u (by simpa using hu)
  rw[show o+1+j=o+(j+1)from by omega];exact this
theorem FsV.st{T:TypeId}{w:World}{B:Nat}{v:Value}{fs:List (List UInt8)}(h:FsV w B v fs)(hB:B≤w.heap.size):WSt T w.heap.size B ⟨fs,false⟩ (w.alloc (.cells #[v,.bool false] T)):=by
 obtain⟨A,c,rfl,h1,h2⟩:=h;exact⟨hB,_,heap_alloc_new w _,h2.below (((Below.refl _ w).alloc (Nat.le_refl _) _).mono hB),A,c,rfl,h1⟩
def RZ(g B:Nat)(w0:World)(a:Al)(w:World):Prop :=
 ∃v:Av,(HasC 166 g (AlC a v) w∧OwnAll w B (AlR a v)∧Below B w0 w∧g∉blks (AlR a v)∧B≤w0.heap.size∧B≤g)∧(a.lists=v.lm.map Lm.ls∧a.maps=v.mm.map Lm.ls∧a.acls=v.am.map Lm.ls) ∧
  (a.block=1→∃gg cap,v.ifs=.slice (some ⟨gg,0,none⟩) a.ifs.length cap∧v.ifp=.pointer (some ⟨gg,a.iface*12,none⟩)) ∧
  (a.block=2→∃m gg cap,v.mm[a.clause.1]? = some m∧m.iv=.slice (some ⟨gg,0,none⟩) m.items.length cap∧v.clp=.pointer (some ⟨gg,a.clause.2*7,none⟩))
section
variable {g b B : Nat} {w0 w w' : World} {a : Al} {p : Ps}
theorem RA.rz(h:RA g b B w0 a p w):RZ g B w0 a w:=by
 obtain⟨v,h,hr⟩:=h;exact⟨v,⟨h.has,h.own,h.bel,h.gr,h.bB,h.gB⟩,hr⟩
theorem RZ.size(h:RZ g B w0 a w):B≤w.heap.size:=by
 obtain⟨v,⟨-,-,h3,-,h5,-⟩,-⟩:=h;exact Nat.le_trans h5 h3.size
theorem RZ.below(h:RZ g B w0 a w):Below B w0 w:=by
 obtain⟨v,⟨-,-,h3,-⟩,-⟩:=h;exact h3
theorem RZ.ra(h:RZ g B w0 a w)(hs:WSt 185 b B p w')(hb:Below w.heap.size w w')(hn:w.heap.size≤b):RA g b B w0 a p w' := by
 have hB:=h.size;obtain⟨v,⟨h1,h2,h3,h4,h5,h6⟩,hr⟩:=h;have hg:=zCv h1;exact⟨v,⟨h1.keep hb,h2.below hb,hs,h3.trans (hb.mono hB),h5,h6,by omega,h4,fun hm=>by have:=(OwnAll.lt h2 hm).1;omega⟩,hr⟩
theorem RA.close(h:RA g b B w0 a p w):RA g b B w0 { a with block:=0 } p (w.setCell ⟨g,28,none⟩ (.int .i64 0)):=by
 obtain⟨v,h,hl,-,-⟩:=h;exact⟨v,h.put 28 (.int .i64 0) rfl,hl,fun h=>absurd (show(0:Int)=1 from h) (by decide),fun h=>absurd (show(0:Int)=2 from h) (by decide)⟩
theorem RA.frz(h:RA g b B w0 a p w)(j:Nat):w.frozen? ⟨g,j,none⟩=false:=by obtain⟨v,h,-⟩:=h;exact h.frz j
theorem RA.c28(h:RA g b B w0 a p w):w.cell? ⟨g,28,none⟩=some (.int .i64 a.block):=by obtain⟨v,h,-⟩:=h;exact h.cell 28
end
def comS(no:Bool)(word:List UInt8)(r:List (List UInt8))(a:Al):Sa:=if belB a.block word then innS word no a ⟨r,false⟩else if no then remS word { a with block:=0 } ⟨r,false⟩else globS word { a with block:=0 } ⟨r,false⟩
theorem lineS_no{f:List UInt8}{r:List (List UInt8)}(a:Al)(h:(f==[110,111])=false):lineS (f :: r) a=((comS false f r a).1,doneB (comS false f r a).2):=by
 have e:((f :: r).head? == some [110,111])=false:=h;unfold lineS comS;rw[e];rfl
theorem lineS_one{f:List UInt8}(a:Al)(h:(f==[110,111])=true):lineS [f] a=(a,false):=by
 have e:([f].head? == some [110,111])=true:=h;unfold lineS;rw[e];rfl
theorem lineS_yes{f word:List UInt8}{r:List (List UInt8)}(a:Al)(h:(f==[110,111])=true):lineS (f :: word :: r) a=((comS true word r a).1,doneB (comS true word r a).2):=by
 have e:((f :: word :: r).head? == some [110,111])=true:=h;unfold lineS comS;rw[e];rfl
def Easy(fs:List (List UInt8)):Prop:=(∃w r,fs=w :: r∧EsG w)∨∃r,fs=[110,111] :: [115,104,117,116,100,111,119,110] :: r
theorem Easy.word{f:List UInt8}{r:List (List UInt8)}(h:Easy (f :: r))(hn:(f==[110,111])=false):EsG f:=by
 rcases h with⟨w,r', e,h⟩|⟨r', e⟩
 ·injection e with e _;rw[e];exact h
 ·injection e with e _;subst e;cases hn
theorem Easy.no{f:List UInt8}{r:List (List UInt8)}(h:Easy (f :: r))(hn:(f==[110,111])=true):∃r', r=[115,104,117,116,100,111,119,110] :: r' := by
 rcases h with⟨w,r', e,h⟩|⟨r', e⟩
 ·injection e with e _
  subst e;rcases h with rfl|rfl|rfl|rfl<;>cases hn
 ·injection e with _ e;exact⟨r', e⟩
theorem line_easy(g B:Nat)(w0:World)(a:Al)(v:Value)(fs:List (List UInt8))(w:World)(h:RZ g B w0 a w)(hk:AlOk 1000000 a)(he:EnvA B w0)(hf:FsV w B v fs)(hne:fs≠[])(hz:Easy fs)(hs:∀f∈fs,f.length≤1000000000) :
  Calls Tryz.prog 117 #[.pointer (some ⟨g,0,none⟩),v] w fun e w' => e=.returned (.bool (lineS fs a).2)∧RZ g B w0 (lineS fs a).1 w' := by
 cases fs with
 |nil=>exact absurd rfl hne
 |cons f r=>
 obtain⟨gf,of,cf,rfl,c0,hcf,hmf,hpop⟩:=hf.pop;have q:((str f).toList==[110,111])=(f==[110,111]):=by rw[zAe]
 have HZ:=hid h;have HE:=hid he;have HK:=hid hk;have HPop:=hid hpop;have hB:=h.size;cases hno:(f==[110,111])with
 |false=>
  have HW:=hid (hz.word hno);rw[hno]at q;have E:Hid (lineS (f :: r) a=((comS false f r a).1,doneB (comS false f r a).2)):=hid (lineS_no a hno);have HS:Hid ((⟨r,false⟩:Ps).short):=hid (fun x hx=>hs x (List.mem_cons_of_mem _ hx));have hB2:=hB;clear h hk he hf hne hz hs hpop hno hB;have hn0:¬(((r.length+1:Nat):Int)=0):=by omega
  have hz0:(((r.length:Int)+1)==0)=false:=by simp;omega
  go_enter Tryz.func117,Tryz.ntmps117;go_upto_region 7 with(fail)
  go_cut [1,7] (fun f1 l0 wx=>l0=.pointer (some ⟨w.heap.size,0,none⟩)∧RA g w.heap.size B w0 a ⟨r,false⟩ wx)
  case first=>
   go_wp2_with fail
   ·go_meet
    have q:=HPop.out (some ⟨gf,of,none⟩) (fun h' => absurd (by assumption) h') (by simp);rw[show cf - 1=0 from by omega]at q;exact⟨rfl,HZ.out.ra (FsV.st q hB2) ((Below.refl _ w).alloc (Nat.le_refl _) _) (Nat.le_refl _)⟩
   ·go_meet
    exact⟨rfl,HZ.out.ra (FsV.st (HPop.out (some ⟨gf,of+1,none⟩) (fun _=>rfl) (by simp)) hB2) ((Below.refl _ w).alloc (Nat.le_refl _) _) (Nat.le_refl _)⟩
  case rest=>
   obtain⟨rfl,R⟩:=hcut;have HR:=hid R;have c28:=R.c28;have fz:=R.frz;clear R;go_wp2_with fail;refine(zKa a.block f (.inl HW.out) _).mono ?_;rintro e w2 ⟨rfl,rfl⟩;cases hb:belB a.block f with
   |true=>
    have EC:Hid (comS false f r a=innS f false a ⟨r,false⟩):=hid (by unfold comS;rw[hb];rfl);have HBL:=hid hb;clear hb;go_wp2_with fail;refine(inner_easy g w.heap.size B w0 a f false ⟨r,false⟩ _ HR.out HK.out HE.out HS.out (easy_block (.inl HW.out) HBL.out)).mono ?_;rintro e w3 ⟨rfl,h3⟩;have H3:=hid h3;clear h3;go_wp2_with fail;refine(zIw _ B _ _ H3.out.st).mono ?_;rintro e w4 ⟨rfl,rfl⟩;go_wp2;go_ret;rw[E.out,EC.out];exact⟨rfl,H3.out.rz⟩
   |false=>
    have EC:Hid (comS false f r a=globS f { a with block:=0 } ⟨r,false⟩):=hid (by unfold comS;rw[hb];rfl);have HR2:=hid HR.out.close;clear hb;go_wp2_with fail;refine(global_easy g w.heap.size B w0 { a with block:=0 } f ⟨r,false⟩ _ HR2.out HK.out.closed HE.out HS.out rfl HW.out).mono ?_;rintro e w3 ⟨rfl,h3⟩;have H3:=hid h3;clear h3;go_wp2_with fail;refine(zIw _ B _ _ H3.out.st).mono ?_;rintro e w4 ⟨rfl,rfl⟩;go_wp2;go_ret;rw[E.out,EC.out];exact⟨rfl,H3.out.rz⟩
 |true=>
  obtain⟨r1,hr1⟩:=hz.no hno;rw[hno]at q;cases r with
  |nil=>
   have E:Hid (lineS [f] a=(a,false)):=hid (lineS_one a hno);clear h hk he hf hne hz hs hpop hno hB;go_enter Tryz.func117,Tryz.ntmps117;go_wp2_with fail
   all_goals
    go_ret;rw[E.out];exact⟨rfl,HZ.out⟩
  |cons word r=>
   have HWW:Hid (word=[115,104,117,116,100,111,119,110]):=hid (List.cons.inj hr1).1;clear hr1;have E:Hid (lineS (f :: word :: r) a=((comS true word r a).1,doneB (comS true word r a).2)):=hid (lineS_yes a hno);have HS:Hid ((⟨r,false⟩:Ps).short):=hid (fun x hx=>hs x (List.mem_cons_of_mem _ (List.mem_cons_of_mem _ hx)));have hp1:FsV w B (.slice (some ⟨gf,of+1,none⟩) (r.length+1) (cf - 1)) (word :: r):=hpop (some ⟨gf,of+1,none⟩) (fun _=>rfl) (by simp);obtain⟨gf', of', cf', e', c1,hcf1,-,hpop1⟩:=hp1.pop;injection e' with e1 _ e3
   injection e1 with e1
   injection e1 with e1 e2 _
   subst e1 e2 e3;have HPop1:=hid hpop1;have hB2:=hB;simp only[List.length_cons]at hcf hmf;clear h hk he hf hne hz hs hpop hno hB hp1 hpop1;have hn0:¬(((r.length+1:Nat):Int)=0):=by omega
   have hz0:(((r.length:Int)+1)==0)=false:=by simp;omega
   have hc1:¬(cf=1):=by omega
   have hc2:(1:Nat)≤cf:=by omega
   rw[List.length_cons];go_enter Tryz.func117,Tryz.ntmps117;go_upto_region 7 with(fail)
   go_cut [1,7] (fun f1 l0 wx=>l0=.pointer (some ⟨w.heap.size,0,none⟩)∧RA g w.heap.size B w0 a ⟨r,false⟩ wx)
   case first=>
    go_wp2_with fail
    ·go_meet
     have q:=HPop1.out (some ⟨gf,of+1,none⟩) (fun h' => absurd (show cf - 1=1 by omega) h') (by simp);rw[show cf - 1 - 1=0 from by omega]at q;exact⟨rfl,HZ.out.ra (FsV.st q hB2) ((Below.refl _ w).alloc (Nat.le_refl _) _) (Nat.le_refl _)⟩
    ·go_meet
     exact⟨rfl,HZ.out.ra (FsV.st (HPop1.out (some ⟨gf,of+1+1,none⟩) (fun _=>rfl) (by simp)) hB2) ((Below.refl _ w).alloc (Nat.le_refl _) _) (Nat.le_refl _)⟩
   case rest=>
    obtain⟨rfl,R⟩:=hcut;have HR:=hid R;have c28:=R.c28;have fz:=R.frz;clear R;go_wp2_with fail;refine(zKa a.block word (.inr HWW.out) _).mono ?_;rintro e w2 ⟨rfl,rfl⟩;cases hb:belB a.block word with
    |true=>
     have EC:Hid (comS true word r a=innS word true a ⟨r,false⟩):=hid (by unfold comS;rw[hb];rfl);have HBL:=hid hb;clear hb;go_wp2_with fail;refine(inner_easy g w.heap.size B w0 a word true ⟨r,false⟩ _ HR.out HK.out HE.out HS.out (easy_block (.inr HWW.out) HBL.out)).mono ?_;rintro e w3 ⟨rfl,h3⟩;have H3:=hid h3;clear h3;go_wp2_with fail;refine(zIw _ B _ _ H3.out.st).mono ?_;rintro e w4 ⟨rfl,rfl⟩;go_wp2;go_ret;rw[E.out,EC.out];exact⟨rfl,H3.out.rz⟩
    |false=>
     have EC:Hid (comS true word r a=remS word { a with block:=0 } ⟨r,false⟩):=hid (by unfold comS;rw[hb];rfl);have HR2:=hid HR.out.close;clear hb;go_wp2_with fail;refine(remove_easy g w.heap.size B w0 { a with block:=0 } word ⟨r,false⟩ _ HR2.out HWW.out).mono ?_;rintro e w3 ⟨rfl,h3⟩;have H3:=hid h3;clear h3;go_wp2_with fail;refine(zIw _ B _ _ H3.out.st).mono ?_;rintro e w4 ⟨rfl,rfl⟩;go_wp2;go_ret;rw[E.out,EC.out];exact⟨rfl,H3.out.rz⟩
def rtE:Array Value:=#[strV [],.int .i64 0,.slice none 0 0,.slice none 0 0,.slice none 0 0,.slice none 0 0,.slice none 0 0,.slice none 0 0,.bool false,.int .i64 0,.slice none 0 0,.slice none 0 0,.bool false,.int .i64 0,strV [],strV [],.slice none 0 0,.bool false,.int .i64 0,.int .i64 0,.slice none 0 0,.slice none 0 0,.slice none 0 0,.slice none 0 0,.slice none 0 0]
def plOf(m:Lm PRule):PList:=⟨m.name,m.iv,m.items⟩
def rmOf(m:Lm Cl):RMap:=⟨m.name,m.iv,m.items⟩
def alOf(m:Lm Ru):AList:=⟨m.name,m.iv,m.items⟩
def Rt.plain(r:Rt):Rt:={ r with ifsV:=.slice none 0 0,listsV:=.slice none 0 0,mapsV:=.slice none 0 0,aclsV:=.slice none 0 0,natV:=.slice none 0 0,statV:=.slice none 0 0,rangesV:=.slice none 0 0,lsRedV:=.slice none 0 0,dvRedV:=.slice none 0 0,nbV:=.slice none 0 0,netV:=.slice none 0 0,agV:=.slice none 0 0,cdV:=.slice none 0 0,pvRedV:=.slice none 0 0,lists:=r.lists.map (fun x=>⟨x.name,.slice none 0 0,x.rules⟩),maps:=r.maps.map (fun x=>⟨x.name,.slice none 0 0,x.clauses⟩),acls:=r.acls.map (fun x=>⟨x.name,.slice none 0 0,x.rules⟩) }
def alRt(a:Al):Rt where
 name:=a.name
 asn:=a.asn
 ifsV:=.slice none 0 0
 listsV:=.slice none 0 0
 mapsV:=.slice none 0 0
 aclsV:=.slice none 0 0
 natV:=.slice none 0 0
 statV:=.slice none 0 0
 lsOn:=a.lsOn
 lsAdmin:=a.lsAdmin
 rangesV:=.slice none 0 0
 lsRedV:=.slice none 0 0
 dvOn:=a.dvOn
 dvAdmin:=a.dvAdmin
 dvIn:=a.dvIn
 dvOut:=a.dvOut
 dvRedV:=.slice none 0 0
 pvOn:=a.pvOn
 ext:=a.ext
 int:=a.int
 nbV:=.slice none 0 0
 netV:=.slice none 0 0
 agV:=.slice none 0 0
 cdV:=.slice none 0 0
 pvRedV:=.slice none 0 0
 ifs:=a.ifs
 lists:=a.lists.map (fun x=>⟨x.name,.slice none 0 0,x.items⟩)
 maps:=a.maps.map (fun x=>⟨x.name,.slice none 0 0,x.items⟩)
 acls:=a.acls.map (fun x=>⟨x.name,.slice none 0 0,x.items⟩)
 nat:=a.nat
 stat:=a.stat
 ranges:=a.ranges
 lsRed:=a.lsRed
 dvRed:=a.dvRed
 nb:=a.nb
 net:=a.net
 ag:=a.ag
 cd:=a.cd
 pvRed:=a.pvRed
def rtF(a:Al)(v:Av)(L M A:Value)(ls:List PList)(mp:List RMap)(ac:List AList):Rt:={ rtZ a v with listsV:=L,mapsV:=M,aclsV:=A,lists:=ls,maps:=mp,acls:=ac }
structure RO (br bx:Nat) (w0:World) (cs:Array Value) (rs:List Orow) (w:World):Prop where
 res:HasC 41 br rtE w
 has:HasC 41 bx cs w
 own:OwnAll w (bx+1) rs
 bel:Below w0.heap.size w0 w
 lo:w0.heap.size≤br
 lt:br<bx
section
variable {br bx : Nat} {w0 w w' : World} {cs cs' : Array Value} {rs pre post : List Orow} {r r' : Orow}
theorem RO.keep(h:RO br bx w0 cs rs w)(hb:Below w.heap.size w w'):RO br bx w0 cs rs w' :=
 ⟨h.res.keep hb,h.has.keep hb,h.own.below hb,h.bel.trans (hb.mono h.bel.size),h.lo,h.lt⟩
theorem RO.row(h:RO br bx w0 cs (pre++r :: post) w)(hg:w.grownBy w' r.v.ownBlock)(ho:r'.own w' (bx+1))(hn:r'.v.ownBlock=r.v.ownBlock∨r'.v.ownBlock=none∨∃k,r'.v.ownBlock=some k∧w.heap.size≤k):RO br bx w0 cs (pre++r' :: post) w' := by
 have h1:=h.lo;have h2:=h.lt;have h3:=h.bel.size;have hk:∀k,r.v.ownBlock=some k→bx+1≤k:=fun k e=>(Orow.own.lt (h.own.1 r (by simp)) e).2
 refine⟨h.res.grown hg (fun e=>?_),h.has.grown hg (fun e=>?_),h.own.upd hg ho hn,h.bel.trans ((Fr.of_grown (rs:=blks [r]) hg (fun g e=>List.mem_filterMap.2 ⟨r,by simp,e⟩)).below (fun k hm=>?_) h3),h1,h2⟩
 ·have:=hk _ e.symm;omega
 ·have:=hk _ e.symm;omega
 ·obtain⟨x,hx,e⟩:=List.mem_filterMap.1 hm
  obtain rfl:=List.mem_singleton.1 hx;have:=hk _ e;omega
theorem RO.put(h:RO br bx w0 cs rs w)(j:Nat)(v:Value)(e:cs.setIfInBounds j v=cs'):RO br bx w0 cs' rs (w.setCell ⟨bx,j,none⟩ v):=by
 have h1:=h.lo;have h2:=h.lt;have h3:=h.bel.size;have hg:=zDi w bx j v;refine⟨h.res.grown hg (fun e=>by have:=Option.some.inj e;omega),?_,h.own.frame hg (fun k hk hm=>by have:=(OwnAll.lt h.own hm).2;have:=Option.some.inj hk;omega),h.bel.trans ((Fr.of_grown (rs:=[bx]) hg (fun g e=>by rw[←Option.some.inj e];simp)).below (fun k hm=>by have:=List.mem_singleton.1 hm;omega) h3),h1,h2⟩;subst e;exact Lib.heap_setCell_same (i:=j) h.has v
end
theorem HasC.loadR{P:Program}{T:TypeId}{g:Nat}{cs:Array Value}{w:World}(h:HasC T g cs w)(hr:(P.underlying T).map TypeDesc.isRow=some true)(hs:(P.info? T).map (·.size)=some cs.size):(loadVar T ⟨g,0,none⟩).run P w=.ok (.agg cs) w:=by
 obtain⟨d,hu,hd⟩:=row_of hr;have:=run_loadVar_mid (P:=P) w g 0 T cs.toList d h.range hu hd (by simpa using hs);simpa using this
theorem OwnAll.own' {w:World}{B:Nat}{rs:List Orow}(h:OwnAll w B rs){α:Type}{Te:TypeId}{n:Nat}{cells:α→Array Value}{x:Value}{l:List α}(hm:rowE Te n cells x l∈rs):OwnE w B Te n cells x l:=h.1 _ hm
theorem rtZ_at{a:Al}{v:Av}{w:World}{B:Nat}(h:OwnAll w B (AlR a v)):(rtZ a v).at w w.heap.size where
 hifs:=OwnE.slv (v:=v.ifs) (l:=a.ifs) (T:=68) (h.own' (by simp[AlR]))
 hlists:=(OwnE.nil (B:=0) (T:=0) (n:=2) (cells:=PList.C)).slv
 nlists:=fun _ h=>by cases h
 hmaps:=(OwnE.nil (B:=0) (T:=0) (n:=2) (cells:=RMap.C)).slv
 nmaps:=fun _ h=>by cases h
 hacls:=(OwnE.nil (B:=0) (T:=0) (n:=2) (cells:=AList.C)).slv
 nacls:=fun _ h=>by cases h
 hnat:=OwnE.slv (v:=v.nat) (l:=a.nat) (T:=106) (h.own' (by simp[AlR]))
 hstat:=OwnE.slv (v:=v.stat) (l:=a.stat) (T:=109) (h.own' (by simp[AlR]))
 hranges:=OwnE.slv (v:=v.ranges) (l:=a.ranges) (T:=112) (h.own' (by simp[AlR]))
 hlsRed:=OwnE.slv (v:=v.lsRed) (l:=a.lsRed) (T:=149) (h.own' (by simp[AlR]))
 hdvRed:=OwnE.slv (v:=v.dvRed) (l:=a.dvRed) (T:=149) (h.own' (by simp[AlR]))
 hnb:=OwnE.slv (v:=v.nb) (l:=a.nb) (T:=115) (h.own' (by simp[AlR]))
 hnet:=OwnE.slv (v:=v.net) (l:=a.net) (T:=90) (h.own' (by simp[AlR]))
 hag:=OwnE.slv (v:=v.ag) (l:=a.ag) (T:=117) (h.own' (by simp[AlR]))
 hcd:=OwnE.slv (v:=v.cd) (l:=a.cd) (T:=119) (h.own' (by simp[AlR]))
 hpvRed:=OwnE.slv (v:=v.pvRed) (l:=a.pvRed) (T:=149) (h.own' (by simp[AlR]))
theorem SlV.lift{α:Type}{w:World}{B B' n:Nat}{cells:α→Array Value}{v:Value}{xs:List α}(h:SlV w B n cells v xs)(hB:B≤B'):SlV w B' n cells v xs:=by
 obtain⟨A,c,e,h1,h2⟩:=h;exact⟨A,c,e,h1,h2.mono hB⟩
theorem Rt.at.lift{w:World}{B B' : Nat}{r:Rt}(h:r.at w B)(hB:B≤B'):r.at w B' := ⟨h.hifs.lift hB,h.hlists.lift hB,fun x hx=>SlV.lift (h.nlists x hx) hB,h.hmaps.lift hB,fun x hx=>SlV.lift (h.nmaps x hx) hB,h.hacls.lift hB,fun x hx=>SlV.lift (h.nacls x hx) hB,h.hnat.lift hB,h.hstat.lift hB,h.hranges.lift hB,h.hlsRed.lift hB,h.hdvRed.lift hB,h.hnb.lift hB,h.hnet.lift hB,h.hag.lift hB,h.hcd.lift hB,h.hpvRed.lift hB⟩
theorem AlR_mem{a:Al}{v:Av}:(∀m∈v.lm,rowE 92 5 PRule.C m.iv m.items∈AlR a v)∧(∀m∈v.mm,rowE 95 7 Cl.C m.iv m.items∈AlR a v)∧(∀m∈v.am,rowE 103 10 Ru.C m.iv m.items∈AlR a v):=by
 refine⟨fun m hmem=>?_,fun m hmem=>?_,fun m hmem=>?_⟩<;>simp only[AlR,rowsP,rowsM,rowsA,zJy,List.mem_cons,List.mem_append,List.mem_flatMap]
 ·exact .inr (.inr (.inr (.inr (.inr (.inr (.inr (.inr (.inr (.inr (.inr (.inl (.inl (.inr ⟨m,hmem,by simp[Lm.rows]⟩)))))))))))))
 ·exact .inr (.inr (.inr (.inr (.inr (.inr (.inr (.inr (.inr (.inr (.inr (.inl (.inr (.inr ⟨m,hmem,by simp[Lm.rows]⟩)))))))))))))
 ·exact .inr (.inr (.inr (.inr (.inr (.inr (.inr (.inr (.inr (.inr (.inr (.inr (.inr ⟨m,hmem,by simp[Lm.rows]⟩))))))))))))
theorem rtF_at{a:Al}{v:Av}{w wx:World}{B B2:Nat}{L M A:Value}(ho:OwnAll w B (AlR a v))(hown:OwnAll wx B2 [rowE 49 2 PList.C L (v.lm.map plOf),rowE 52 2 RMap.C M (v.mm.map rmOf),rowE 55 2 AList.C A (v.am.map alOf)])(hb:Below w.heap.size w wx) :
  (rtF a v L M A (v.lm.map plOf) (v.mm.map rmOf) (v.am.map alOf)).at wx wx.heap.size:=by
 have hz:=((rtZ_at ho).below hb).lift hb.size;refine⟨hz.hifs,OwnE.slv (v:=L) (l:=v.lm.map plOf) (T:=49) (hown.own' (by simp)),fun x hx=>?_,OwnE.slv (v:=M) (l:=v.mm.map rmOf) (T:=52) (hown.own' (by simp)),fun x hx=>?_,OwnE.slv (v:=A) (l:=v.am.map alOf) (T:=55) (hown.own' (by simp)),fun x hx=>?_,hz.hnat,hz.hstat,hz.hranges,hz.hlsRed,hz.hdvRed,hz.hnb,hz.hnet,hz.hag,hz.hcd,hz.hpvRed⟩
 ·obtain⟨m,hm,rfl⟩:=List.mem_map.1 hx
  exact((OwnE.slv (ho.own' (AlR_mem.1 m hm))).below hb).lift hb.size
 ·obtain⟨m,hm,rfl⟩:=List.mem_map.1 hx
  exact((OwnE.slv (ho.own' (AlR_mem.2.1 m hm))).below hb).lift hb.size
 ·obtain⟨m,hm,rfl⟩:=List.mem_map.1 hx
  exact((OwnE.slv (ho.own' (AlR_mem.2.2 m hm))).below hb).lift hb.size
theorem rtF_plain{a:Al}{v:Av}{L M A:Value}(h1:a.lists=v.lm.map Lm.ls)(h2:a.maps=v.mm.map Lm.ls)(h3:a.acls=v.am.map Lm.ls):(rtF a v L M A (v.lm.map plOf) (v.mm.map rmOf) (v.am.map alOf)).plain=alRt a:=by
 unfold alRt;rw[h1,h2,h3];unfold Rt.plain rtF rtZ;simp only[List.map_map];rfl
theorem take_snoc{α:Type}{l:List α}{j:Nat}(h:j<l.length):l.take (j+1)=l.take j++[l[j]]:=by
 rw[List.take_add_one,List.getElem?_eq_getElem h];rfl
theorem Tryz.infoOPList:(Tryz.prog.info? 49).map (fun i=>(i.zero.map (fun z=>z.cells.size),i.size,i.bytes))=some (some 2,2,40):=by kernel_rfl
theorem Tryz.infoORMap:(Tryz.prog.info? 52).map (fun i=>(i.zero.map (fun z=>z.cells.size),i.size,i.bytes))=some (some 2,2,40):=by kernel_rfl
theorem Tryz.infoOAList:(Tryz.prog.info? 55).map (fun i=>(i.zero.map (fun z=>z.cells.size),i.size,i.bytes))=some (some 2,2,40):=by kernel_rfl
theorem router_any(g B:Nat)(w0:World)(a:Al)(w:World)(h:RZ g B w0 a w)(hk:AlOk 1000000 a) :
  Calls Tryz.prog 118 #[.pointer (some ⟨g,0,none⟩)] w fun e w' =>∃r:Rt,e=.returned (.agg r.C)∧Below w.heap.size w w' ∧ r.plain=alRt a∧∀(ks:List Nat) w'', (∀k∈ks,k<B)→Fr ks w' w'' → r.at w'' w''.heap.size:=by
 obtain⟨v,⟨h1,h2,-,-,-,hgB⟩,⟨hl1,hl2,hl3⟩,-,-⟩:=h;have hg:=zCv h1;have H1:=hid h1;have HOW:=hid h2;have HL1:=hid hl1;have HL2:=hid hl2;have HL3:=hid hl3;have hm1:v.lm.length≤1000000:=by have:=hk.lists.1;rw[hl1]at this;simpa using this
 have hm2:v.mm.length≤1000000:=by have:=hk.maps.1;rw[hl2]at this;simpa using this
 have hm3:v.am.length≤1000000:=by have:=hk.acls.1;rw[hl3]at this;simpa using this
 have HM1:=hid hm1;have HM2:=hid hm2;have HM3:=hid hm3;have ho0:OwnE w B 191 3 Lm.C v.lists v.lm:=h2.1 (rowE 191 3 Lm.C v.lists v.lm) (by simp[AlR,rowsP,zJy]);have HS0:=hid ho0.slv;obtain⟨A0,c0,e0,-⟩:=ho0.slv;have EV0:=hid e0;have ho1:OwnE w B 193 3 Lm.C v.maps v.mm:=h2.1 (rowE 193 3 Lm.C v.maps v.mm) (by simp[AlR,rowsM,zJy]);have HS1:=hid ho1.slv;obtain⟨A1,c1,e1,-⟩:=ho1.slv;have EV1:=hid e1;have ho2:OwnE w B 195 3 Lm.C v.acls v.am:=h2.1 (rowE 195 3 Lm.C v.acls v.am) (by simp[AlR,rowsA,zJy]);have HS2:=hid ho2.slv;obtain⟨A2,c2,e2,-⟩:=ho2.slv;have EV2:=hid e2
 have hR:w.rangeAt g 0 (rtZ a v).C.toList:=by
  have:=World.rangeAt_of_block h1 0 25
  rwa [Nat.zero_add,rtZ_C]at this
 have HONE:Hid ((rtZ a v).C.all (·.oneCell')=true):=hid (rtZ_at h2).one;have B1:=(Below.refl w.heap.size w).alloc (Nat.le_refl _) (.cells rtE 41);have HR:=hid (zAf hR B1 hg);clear h1 h2 hl1 hl2 hl3 hm1 hm2 hm3 hk hR ho0 ho1 ho2 e0 e1 e2;go_enter Tryz.func118,Tryz.ntmps118;go_upto_region 1 with(fail)
 have HRES:=hid (HasC.new w 41 rtE);have HB1:=hid B1;clear B1;change Code.wp _ _ _ _ (w.alloc (.cells rtE 41));generalize w.alloc (.cells rtE 41)=wA at HR HRES HB1⊢;go_upto_region 2 with(first|(refine zAa rfl _ _ rfl rfl HR.out Tryz.rowRt Tryz.sizeRt ?_)|(refine zAd rfl 41 _ _ rfl rfl (ds:=(rtZ a v).C) rfl (HasC.new _ _ _) rfl Tryz.sizeRt HONE.out ?_;intro w5 hz1 hz2))
 have hlt:=zCv HRES.out
 have RZ0:RO w.heap.size wA.heap.size w (rtF a v (.slice none 0 0) (.slice none 0 0) (.slice none 0 0) [] [] []).C [rowE 49 2 PList.C (.slice none 0 0) [],rowE 52 2 RMap.C (.slice none 0 0) [],rowE 55 2 AList.C (.slice none 0 0) []] w5:=by
  refine⟨HRES.out.keep (zAi hz2),hz1,⟨fun r hr=>?_,?_⟩,HB1.out.trans ((zAi hz2).mono HB1.out.size),Nat.le_refl _,hlt⟩
  ·simp only[List.mem_cons,List.not_mem_nil,or_false]at hr
   rcases hr with rfl|rfl|rfl
   ·exact OwnE.nil (cells:=PList.C)
   ·exact OwnE.nil (cells:=RMap.C)
   ·exact OwnE.nil (cells:=AList.C)
  ·exact List.nodup_nil
 have H5:=hid RZ0;clear RZ0 hz1 hz2 HR HRES HB1 HONE hlt;have c25:w5.cell? ⟨g,25,none⟩=.some (.slice A0 v.lm.length c0):=by rw[←EV0.out];exact(HasC.below H1.out H5.out.bel hg).cell 25
 go_wp2_with fail;clear c25;go_loopg [19] v.lm.length (fun gh ix wr=>∃(j:Nat) (V0:Value),j+gh=v.lm.length∧ix=.int .i64 j∧Hid (RO w.heap.size wA.heap.size w (rtF a v V0 (.slice none 0 0) (.slice none 0 0) ((v.lm.take j).map plOf) [] []).C [rowE 49 2 PList.C V0 ((v.lm.take j).map plOf),rowE 52 2 RMap.C (.slice none 0 0) [],rowE 55 2 AList.C (.slice none 0 0) []] wr));case atStart=>exact⟨0,.slice none 0 0,by omega,rfl,H5⟩
 case round=>
  obtain⟨j,V0,hj,rfl,HR⟩:=hrel;by_cases hjl:j<v.lm.length;case pos=>
   obtain⟨g', o', c'', e',-,hg', R0⟩:=HS0.out.elem (n:=3) (by decide) (fun _=>rfl) hjl;rw[EV0.out]at e';injection e' with e1 e2 e3
   subst e1 e3;have r1:=hid (zAf R0 HR.out.bel hg');obtain⟨m,hm⟩:∃m,m=v.lm[j]:=⟨_,rfl⟩;rw[←hm]at r1;have HM:=hid hm;clear hm R0 e2;have hjz:(j:Int)<(v.lm.length:Int):=by omega
   have hmx:=HM1.out;go_upto_region 5 with(first|(refine zAa rfl 191 _ rfl rfl r1.out Tryz.rowLPRule Tryz.sizeLPRule ?_)|(refine zAd rfl 191 _ _ rfl rfl rfl (HasC.new wr _ _) rfl Tryz.sizeLPRule (Lm.one m) ?_;intro w6 hz1 hz2))
   have H6:=hid (HR.out.keep (zAi hz2));have X6:=hid hz1;clear hz1 hz2 r1 HR;generalize wr.heap.size=gy at X6⊢;have x0:w6.cell? ⟨gy,0,none⟩=.some (.string (str m.name)):=X6.out.cell 0;have hmem:m∈v.lm:=by rw[HM.out];exact List.getElem_mem _
   have hoI:OwnE w B 92 5 PRule.C m.iv m.items:=HOW.out.own' (AlR_mem.1 m hmem);obtain⟨Ai,ci,hiv,-⟩:=hoI.slv;have HX:Hid (plOf m=⟨m.name,.slice Ai m.items.length ci,m.items⟩):=hid (by unfold plOf;rw[hiv]);have x2:w6.cell? ⟨gy,2,none⟩=.some (.slice Ai m.items.length ci):=by rw[←hiv];exact X6.out.cell 2
   clear hoI hmem hiv;have d3:w6.cell? ⟨wA.heap.size,3,none⟩=.some V0:=H6.out.has.cell 3;have HO1:OwnE w6 (wA.heap.size+1) 49 2 PList.C V0 ((v.lm.take j).map plOf):=H6.out.own.own' (by simp);obtain⟨A5,m5,c5,w7,hr,ho5,hg5,hn5⟩:=HO1.push (P:=Tryz.prog) (zCv H6.out.has) Tryz.underlying23 Tryz.infoOPList (by decide) (fun _=>rfl) (⟨m.name,.slice Ai m.items.length ci,m.items⟩:PList) (PList.one _ rfl) (by have:=HM1.out;simp only[List.length_map,List.length_take];omega) (by decide) 23;have R7:=RO.row (pre:=[]) (post:=[rowE 52 2 RMap.C (.slice none 0 0) [],rowE 55 2 AList.C (.slice none 0 0) []]) (r' := rowE 49 2 PList.C (.slice A5 m5 c5) ((v.lm.take j).map plOf++[(⟨m.name,.slice Ai m.items.length ci,m.items⟩:PList)])) H6.out hg5 ho5 hn5;rw[show(v.lm.take j).map plOf++[(⟨m.name,.slice Ai m.items.length ci,m.items⟩:PList)]=(v.lm.take (j+1)).map plOf from by rw[take_snoc hjl,List.map_append,←HM.out,←HX.out];rfl]at R7;have H7:=hid R7;have HRun:=hid hr;have d7:w7.cell? ⟨wA.heap.size,3,none⟩=.some V0:=R7.has.cell 3;have fz:=R7.has.frz;clear R7 hr ho5 hg5 hn5 HO1;go_wp2_with (at_builtin;refine Lib.wpList_append_run _ rfl _ _ _ _ rfl _ _ rfl rfl _ _ HRun.out ?_);go_roundg (v.lm.length - (j+1));case measure=>omega
   case rel=>exact⟨j+1,.slice A5 m5 c5,by omega,by go_num,hid (H7.out.put (cs' := (rtF a v (.slice A5 m5 c5) (.slice none 0 0) (.slice none 0 0) ((v.lm.take (j+1)).map plOf) [] []).C) 3 (.slice A5 m5 c5) rfl)⟩
  have R9:=HR.out;rw[List.take_of_length_le (by omega)]at R9;have H90:=hid R9;have hjz:¬((j:Int)<(v.lm.length:Int)):=by omega
  clear R9 HR hjl hj;generalize wr=w90 at H90⊢;have c26:w90.cell? ⟨g,26,none⟩=.some (.slice A1 v.mm.length c1):=by rw[←EV1.out];exact(HasC.below H1.out H90.out.bel hg).cell 26
  go_wp2_with fail;clear c26;go_loopg [39] v.mm.length (fun gh ix wr=>∃(j:Nat) (V1:Value),j+gh=v.mm.length∧ix=.int .i64 j∧Hid (RO w.heap.size wA.heap.size w (rtF a v V0 V1 (.slice none 0 0) (v.lm.map plOf) ((v.mm.take j).map rmOf) []).C [rowE 49 2 PList.C V0 (v.lm.map plOf),rowE 52 2 RMap.C V1 ((v.mm.take j).map rmOf),rowE 55 2 AList.C (.slice none 0 0) []] wr));case atStart=>exact⟨0,.slice none 0 0,by omega,rfl,H90⟩
  case round=>
   obtain⟨j,V1,hj,rfl,HR⟩:=hrel;by_cases hjl:j<v.mm.length;case pos=>
    obtain⟨g', o', c'', e',-,hg', R0⟩:=HS1.out.elem (n:=3) (by decide) (fun _=>rfl) hjl;rw[EV1.out]at e';injection e' with e1 e2 e3
    subst e1 e3;have r1:=hid (zAf R0 HR.out.bel hg');obtain⟨m,hm⟩:∃m,m=v.mm[j]:=⟨_,rfl⟩;rw[←hm]at r1;have HM:=hid hm;clear hm R0 e2;have hjz:(j:Int)<(v.mm.length:Int):=by omega
    have hmx:=HM2.out;go_upto_region 10 with(first|(refine zAa rfl 193 _ rfl rfl r1.out Tryz.rowLCl Tryz.sizeLCl ?_)|(refine zAd rfl 193 _ _ rfl rfl rfl (HasC.new wr _ _) rfl Tryz.sizeLCl (Lm.one m) ?_;intro w6 hz1 hz2))
    have H6:=hid (HR.out.keep (zAi hz2));have X6:=hid hz1;clear hz1 hz2 r1 HR;generalize wr.heap.size=gy at X6⊢;have x0:w6.cell? ⟨gy,0,none⟩=.some (.string (str m.name)):=X6.out.cell 0;have hmem:m∈v.mm:=by rw[HM.out];exact List.getElem_mem _
    have hoI:OwnE w B 95 7 Cl.C m.iv m.items:=HOW.out.own' (AlR_mem.2.1 m hmem);obtain⟨Ai,ci,hiv,-⟩:=hoI.slv;have HX:Hid (rmOf m=⟨m.name,.slice Ai m.items.length ci,m.items⟩):=hid (by unfold rmOf;rw[hiv]);have x2:w6.cell? ⟨gy,2,none⟩=.some (.slice Ai m.items.length ci):=by rw[←hiv];exact X6.out.cell 2
    clear hoI hmem hiv;have d3:w6.cell? ⟨wA.heap.size,4,none⟩=.some V1:=H6.out.has.cell 4;have HO1:OwnE w6 (wA.heap.size+1) 52 2 RMap.C V1 ((v.mm.take j).map rmOf):=H6.out.own.own' (by simp);obtain⟨A5,m5,c5,w7,hr,ho5,hg5,hn5⟩:=HO1.push (P:=Tryz.prog) (zCv H6.out.has) Tryz.underlying24 Tryz.infoORMap (by decide) (fun _=>rfl) (⟨m.name,.slice Ai m.items.length ci,m.items⟩:RMap) (RMap.one _ rfl) (by have:=HM2.out;simp only[List.length_map,List.length_take];omega) (by decide) 24;have R7:=RO.row (pre:=[rowE 49 2 PList.C V0 (v.lm.map plOf)]) (post:=[rowE 55 2 AList.C (.slice none 0 0) []]) (r' := rowE 52 2 RMap.C (.slice A5 m5 c5) ((v.mm.take j).map rmOf++[(⟨m.name,.slice Ai m.items.length ci,m.items⟩:RMap)])) H6.out hg5 ho5 hn5;rw[show(v.mm.take j).map rmOf++[(⟨m.name,.slice Ai m.items.length ci,m.items⟩:RMap)]=(v.mm.take (j+1)).map rmOf from by rw[take_snoc hjl,List.map_append,←HM.out,←HX.out];rfl]at R7;have H7:=hid R7;have HRun:=hid hr;have d7:w7.cell? ⟨wA.heap.size,4,none⟩=.some V1:=R7.has.cell 4;have fz:=R7.has.frz;clear R7 hr ho5 hg5 hn5 HO1;go_wp2_with (at_builtin;refine Lib.wpList_append_run _ rfl _ _ _ _ rfl _ _ rfl rfl _ _ HRun.out ?_);go_roundg (v.mm.length - (j+1));case measure=>omega
    case rel=>exact⟨j+1,.slice A5 m5 c5,by omega,by go_num,hid (H7.out.put (cs' := (rtF a v V0 (.slice A5 m5 c5) (.slice none 0 0) (v.lm.map plOf) ((v.mm.take (j+1)).map rmOf) []).C) 4 (.slice A5 m5 c5) rfl)⟩
   have R9:=HR.out;rw[List.take_of_length_le (by omega)]at R9;have H91:=hid R9;have hjz:¬((j:Int)<(v.mm.length:Int)):=by omega
   clear R9 HR hjl hj;generalize wr=w91 at H91⊢;have c27:w91.cell? ⟨g,27,none⟩=.some (.slice A2 v.am.length c2):=by rw[←EV2.out];exact(HasC.below H1.out H91.out.bel hg).cell 27
   go_wp2_with fail;clear c27;go_loopg [59] v.am.length (fun gh ix wr=>∃(j:Nat) (V2:Value),j+gh=v.am.length∧ix=.int .i64 j∧Hid (RO w.heap.size wA.heap.size w (rtF a v V0 V1 V2 (v.lm.map plOf) (v.mm.map rmOf) ((v.am.take j).map alOf)).C [rowE 49 2 PList.C V0 (v.lm.map plOf),rowE 52 2 RMap.C V1 (v.mm.map rmOf),rowE 55 2 AList.C V2 ((v.am.take j).map alOf)] wr));case atStart=>exact⟨0,.slice none 0 0,by omega,rfl,H91⟩
   case round=>
    obtain⟨j,V2,hj,rfl,HR⟩:=hrel;by_cases hjl:j<v.am.length;case pos=>
     obtain⟨g', o', c'', e',-,hg', R0⟩:=HS2.out.elem (n:=3) (by decide) (fun _=>rfl) hjl;rw[EV2.out]at e';injection e' with e1 e2 e3
     subst e1 e3;have r1:=hid (zAf R0 HR.out.bel hg');obtain⟨m,hm⟩:∃m,m=v.am[j]:=⟨_,rfl⟩;rw[←hm]at r1;have HM:=hid hm;clear hm R0 e2;have hjz:(j:Int)<(v.am.length:Int):=by omega
     have hmx:=HM3.out;go_upto_region 15 with(first|(refine zAa rfl 195 _ rfl rfl r1.out Tryz.rowLRu Tryz.sizeLRu ?_)|(refine zAd rfl 195 _ _ rfl rfl rfl (HasC.new wr _ _) rfl Tryz.sizeLRu (Lm.one m) ?_;intro w6 hz1 hz2))
     have H6:=hid (HR.out.keep (zAi hz2));have X6:=hid hz1;clear hz1 hz2 r1 HR;generalize wr.heap.size=gy at X6⊢;have x0:w6.cell? ⟨gy,0,none⟩=.some (.string (str m.name)):=X6.out.cell 0;have hmem:m∈v.am:=by rw[HM.out];exact List.getElem_mem _
     have hoI:OwnE w B 103 10 Ru.C m.iv m.items:=HOW.out.own' (AlR_mem.2.2 m hmem);obtain⟨Ai,ci,hiv,-⟩:=hoI.slv;have HX:Hid (alOf m=⟨m.name,.slice Ai m.items.length ci,m.items⟩):=hid (by unfold alOf;rw[hiv]);have x2:w6.cell? ⟨gy,2,none⟩=.some (.slice Ai m.items.length ci):=by rw[←hiv];exact X6.out.cell 2
     clear hoI hmem hiv;have d3:w6.cell? ⟨wA.heap.size,5,none⟩=.some V2:=H6.out.has.cell 5;have HO1:OwnE w6 (wA.heap.size+1) 55 2 AList.C V2 ((v.am.take j).map alOf):=H6.out.own.own' (by simp);obtain⟨A5,m5,c5,w7,hr,ho5,hg5,hn5⟩:=HO1.push (P:=Tryz.prog) (zCv H6.out.has) Tryz.underlying25 Tryz.infoOAList (by decide) (fun _=>rfl) (⟨m.name,.slice Ai m.items.length ci,m.items⟩:AList) (AList.one _ rfl) (by have:=HM3.out;simp only[List.length_map,List.length_take];omega) (by decide) 25;have R7:=RO.row (pre:=[rowE 49 2 PList.C V0 (v.lm.map plOf),rowE 52 2 RMap.C V1 (v.mm.map rmOf)]) (post:=[]) (r' := rowE 55 2 AList.C (.slice A5 m5 c5) ((v.am.take j).map alOf++[(⟨m.name,.slice Ai m.items.length ci,m.items⟩:AList)])) H6.out hg5 ho5 hn5;rw[show(v.am.take j).map alOf++[(⟨m.name,.slice Ai m.items.length ci,m.items⟩:AList)]=(v.am.take (j+1)).map alOf from by rw[take_snoc hjl,List.map_append,←HM.out,←HX.out];rfl]at R7;have H7:=hid R7;have HRun:=hid hr;have d7:w7.cell? ⟨wA.heap.size,5,none⟩=.some V2:=R7.has.cell 5;have fz:=R7.has.frz;clear R7 hr ho5 hg5 hn5 HO1;go_wp2_with (at_builtin;refine Lib.wpList_append_run _ rfl _ _ _ _ rfl _ _ rfl rfl _ _ HRun.out ?_);go_roundg (v.am.length - (j+1));case measure=>omega
     case rel=>exact⟨j+1,.slice A5 m5 c5,by omega,by go_num,hid (H7.out.put (cs' := (rtF a v V0 V1 (.slice A5 m5 c5) (v.lm.map plOf) (v.mm.map rmOf) ((v.am.take (j+1)).map alOf)).C) 5 (.slice A5 m5 c5) rfl)⟩
    have R9:=HR.out;rw[List.take_of_length_le (by omega)]at R9;have H92:=hid R9;have hjz:¬((j:Int)<(v.am.length:Int)):=by omega
    clear R9 HR hjl hj;have HAT:=hid (rtF_at HOW.out H92.out.own H92.out.bel);have HPL:=hid (rtF_plain (L:=V0) (M:=V1) (A:=V2) HL1.out HL2.out HL3.out);go_wp2_with (first|(refine zAa rfl _ _ rfl rfl H92.out.has.range Tryz.rowRt Tryz.sizeRt ?_)|(refine zAd rfl 41 _ _ rfl rfl rfl H92.out.res rfl Tryz.sizeRt HAT.out.one ?_;intro wz hz1 hz2));refine bodyPost_ret (results_cell rfl rfl (hz1.loadR Tryz.rowRt Tryz.sizeRt)) rfl ?_;have hb:Below w.heap.size w wz:=H92.out.bel.trans (zBj hz2 (Nat.le_refl _) H92.out.bel.size);have ho1:OwnAll wz (wA.heap.size+1) _:=H92.out.own.frame hz2 (fun k hk hm=>by have:=(OwnAll.lt H92.out.own hm).2;have:=H92.out.lt;have:=Option.some.inj hk;omega);have ho2:=OwnAll.below HOW.out hb;have hlo:=H92.out.lo;have hlt:=H92.out.lt;refine⟨_,rfl,hb,HPL.out,fun ks w2 hk hf=>rtF_at (OwnAll.fr ho2 hf (fun x hx hm=>?_)) (OwnAll.fr ho1 hf (fun x hx hm=>?_)) (Below.refl _ _)⟩
    ·have h1:=(OwnAll.lt ho2 hx).2
     have h2:=hk _ hm;omega
    ·have h1:=(OwnAll.lt ho1 hx).2
     have h2:=hk _ hm;omega
theorem own_below{w w' : World}{base:Nat}{e:TypeId}{size n:Nat}{v:Value}{xs:List Value}(h:w.ownsRow base e size v n xs)(hb:Below w.heap.size w w'):w'.ownsRow base e size v n xs :=
 h.kept (row:=none) ⟨hb.os,hb.tape,hb.output,hb.size,fun k hk _=>hb.block k hk⟩ (by cases hv:v.ownBlock<;>simp)
def SlN(w:World)(row:Option Nat)(u:Value)(ls:List (List UInt8)):Prop :=
 ∃A c,u=.slice A ls.length c∧ls.length≤c∧ls.length≤maxLen∧(A=none→c=0)∧(0<ls.length→∃g o,A=some ⟨g,o,none⟩∧g<w.heap.size∧row≠some g∧∀(j:Nat) t,ls[j]? = some t→w.cell? ⟨g,o+j,none⟩=some (strV t))
theorem SlN.grown{w w' : World}{row row' : Option Nat}{u:Value}{ls:List (List UInt8)}(h:SlN w row u ls)(hg:w.grownBy w' row)(hr:row' = row∨∃k,w.heap.size≤k∧row' = some k):SlN w' row' u ls:=by
 obtain⟨A,c,rfl,h1,h2,h3,h4⟩:=h;refine⟨A,c,rfl,h1,h2,h3,fun h0=>?_⟩;obtain⟨g,o,rfl,hgl,hne,hc⟩:=h4 h0;refine⟨g,o,rfl,Nat.lt_of_lt_of_le hgl hg.size,?_,fun j t ht=>hg.cell (hc j t ht) (fun e=>hne e.symm)⟩;rcases hr with rfl|⟨k,hk,rfl⟩
 ·exact hne
 ·intro e;injection e with e;omega
theorem SlN.below{w w' : World}{row:Option Nat}{u:Value}{ls:List (List UInt8)}(h:SlN w row u ls)(hb:Below w.heap.size w w'):SlN w' row u ls:=by
 obtain⟨A,c,rfl,h1,h2,h3,h4⟩:=h;refine⟨A,c,rfl,h1,h2,h3,fun h0=>?_⟩;obtain⟨g,o,rfl,hgl,hne,hc⟩:=h4 h0;exact⟨g,o,rfl,Nat.lt_of_lt_of_le hgl hb.size,hne,fun j t ht=>(hb.cell (p:=⟨g,o+j,none⟩) hgl).trans (hc j t ht)⟩
theorem SlN.of_own{w:World}{base:Nat}{row:Option Nat}{v:Value}{ls:List (List UInt8)}(h:w.ownsRow base 9 1 v ls.length (ls.map strV))(hr:∀k,row=some k→k<base):SlN w row v ls:=by
 obtain⟨A,c,e1,h0,_,hA,h2⟩:=Slc.of_own h;rcases h.2 with⟨rfl,h0⟩|⟨g,cap,cur,rfl,hb,_,hn,_⟩
 ·exact⟨none,0,by rw[h0],by omega,by simp[h0],fun _=>rfl,fun h=>by omega⟩
 ·refine⟨_,cap,rfl,hn,h0,fun h=>(by cases h),fun h3=>?_⟩
  injection e1 with e1 e2 e3
  subst e1;obtain⟨g', o', e2,hg,hc⟩:=h2 h3;injection e2 with e2
  injection e2 with e3 e4
  subst e3 e4;refine⟨g,0,rfl,hg,fun e=>?_,fun j t ht=>hc j _ (by rw[List.getElem?_map,ht];rfl)⟩;have:=hr g e;omega
theorem linesGo_short:∀(l cur:List UInt8) (x:List UInt8),x∈zDo cur l→x.length≤cur.length+l.length:=by
 intro l;induction l with
 |nil=>
  intro cur x h;simp only[zDo,flush]at h;split at h
  ·cases h
  ·simp at h;subst h;simp
 |cons c r ih=>
  intro cur x h;simp only[zDo]at h;split at h
  ·rcases List.mem_cons.1 h with h|h
   ·subst h;simp
   ·have:=ih [] x h;simp at this⊢;omega
  ·have:=ih _ x h;simp at this⊢;omega
theorem lines_short{t:List UInt8}(h:zBs t=0):(zFz t).length≤65537∧∀l∈zFz t,l.length≤65536:=by
 have hl:t.length≤65536:=by
  unfold zBs at h;split at h
  ·cases h
  ·omega
 refine⟨by have:=linesGo_len t [];unfold zFz;omega,fun l hm=>?_⟩;have:=linesGo_short t [] l hm;simp at this;omega
def LnV(w:World)(B:Nat)(v:Value)(ls:List (List (List UInt8))):Prop :=
 ∃A c,v=.slice A ls.length c∧ls.length≤c∧ls.length≤1000000000∧∀(j:Nat) fs,ls[j]? = some fs→∃g o u,A=some ⟨g,o,none⟩∧g<B∧w.cell? ⟨g,o+j,none⟩=some u∧FsV w B u fs
theorem LnV.below{w w' : World}{B:Nat}{v:Value}{ls:List (List (List UInt8))}(h:LnV w B v ls)(hb:Below B w w'):LnV w' B v ls:=by
 obtain⟨A,c,e,h1,h2,h3⟩:=h;refine⟨A,c,e,h1,h2,fun j fs hj=>?_⟩;obtain⟨g,o,u,e,hg,hc,hf⟩:=h3 j fs hj;exact⟨g,o,u,e,hg,(hb.cell (p:=⟨g,o+j,none⟩) hg).trans hc,hf.below hb⟩
theorem SlN.fsv{w:World}{row:Option Nat}{u:Value}{fs:List (List UInt8)}(h:SlN w row u fs):FsV w w.heap.size u fs:=by
 obtain⟨A,c,rfl,h1,h2,h3,h4⟩:=h;refine⟨A,c,rfl,h1,A,c,rfl,h2,by simp,h3,fun h0=>?_⟩;obtain⟨g,o,rfl,hg,_,hc⟩:=h4 h0;refine⟨g,o,rfl,hg,fun j u hu=>?_⟩;rw[List.getElem?_map]at hu;cases hq:fs[j]? with
 |none=>rw[hq]at hu;cases hu
 |some t=>rw[hq]at hu;injection hu with hu;subst hu;exact hc j t hq
def SplitP(l:List UInt8)(w:World)(e:Ending)(w' : World):Prop :=
 ∃v,e=.returned (.tuple #[v,.int .i64 (zBs l)])∧Below w.heap.size w w' ∧ (zBs l=0→LnV w' w'.heap.size v ((zFz l).map (zDv 33)))
theorem Tryz.infoFs:(Tryz.prog.info? 82).map (fun i=>(i.zero,i.size,i.bytes))=some (some (.slice none 0 0),1,24):=by kernel_rfl
theorem split_any(s:ByteArray)(w:World):Calls Tryz.prog 74 #[.string s] w (SplitP (bytes s) w):=by
 obtain⟨i0,hi0,hz0,hz1,hz2⟩:=info_parts Tryz.infoFs;have Hi0:=hid hi0;have Hz0:=hid hz0;have Hz1:=hid hz1;have Hz2:=hid hz2;clear hi0 hz0 hz1 hz2;go_enter Tryz.func74,Tryz.ntmps74;go_wp2_with fail;refine(lines_any s w).mono ?_;rintro e w1 ⟨v1,rfl,ho1,hb1⟩;generalize bytes s=l at *;cases he:(zBs l != 0)with
 |true=>
  have hne:¬zBs l=0:=by simpa using he
  have HNE:=hid hne;have HB:=hid hb1;clear hne ho1;go_wp2_with fail;go_ret2;exact⟨_,rfl,HB.out,fun h=>absurd h HNE.out⟩
 |false=>
  have h0:zBs l=0:=by simpa using he
  have hlr:zHh l=zFz l:=by unfold zHh;rw[if_pos h0]
  have hsh:=lines_short h0;rw[hlr]at ho1;have HSH:=hid hsh.2;have hn:=hsh.1;have H0:=hid h0;obtain⟨L,hL⟩:∃L,L=zFz l:=⟨_,rfl⟩;rw[←hL]at ho1 hn HSH;have HL:=hid hL;have HS:=hid (Slc.of_own ho1);obtain⟨A1,c1,e1⟩:=slc_form (Slc.of_own ho1);subst e1;have HB:=hid hb1;clear hlr hsh h0 ho1 hL hb1;go_wp2_with (first|(at_make;refine wpList_make_full _ rfl _ _ 129 rfl w1.heap.size 82 i0 _ 1 Tryz.underlying129 Hi0.out Hz0.out Hz1.out .i64 .i64 _ _ L.length rfl rfl rfl rfl (by rw[Hz2.out];omega) (by unfold maxLen;omega) (Nat.le_refl _) ?_;intro w2 hown hgr));have HO:=hid hown;have hxl:=hown.1;have HBW:=hid ((Below.refl w1.heap.size w1).grown hgr (Nat.le_refl _) (fun k h=>by cases h));clear hown hgr;generalize (madeCells _ (L.length*1)).toList=xs0 at HO hxl;go_loopg [22] L.length (fun gh ix wr=>∃(j:Nat) (us:List Value),j+gh=L.length∧ix=.int .i64 j∧us.length=L.length*1∧Hid (wr.ownsRow w1.heap.size 82 1 (.slice (some ⟨w1.heap.size,0,none⟩) L.length L.length) L.length us)∧Hid (∀(i:Nat) u t,i<j→us[i]? = some u→L[i]? = some t→SlN wr (some w1.heap.size) u (zDv 33 t))∧Hid (Below w1.heap.size w1 wr));case atStart=>exact⟨0,xs0,by omega,rfl,hxl,HO,hid (fun i u t h=>by omega),HBW⟩
  case round=>
   clear HO hxl HBW;obtain⟨j,us,hj,rfl,hul,HO,HU,HBr⟩:=hrel;by_cases hjl:j<L.length
   ·obtain⟨g,o,eA,hg,cx⟩:=slc_at (HS.out.below HBr.out) rfl hjl
    have HT:=hid (List.getElem?_eq_getElem hjl);have hx:=HSH.out _ (List.getElem_mem hjl);generalize L[j]=x at cx HT hx;have HF:=hid (fun W=>fields_any (str x) 33 W (by rw[zBx];omega));unfold strV at cx;subst eA;have HUL:=hid hul;have hz4:=HBr.out.size;have hlt4:w1.heap.size<wr.heap.size:=(HO.out.lt _ rfl).2;clear hul hx;go_wp2_with fail;refine(HF.out _).mono ?_;rintro e w4 ⟨v4,rfl,ho4,hb5⟩;rw[zBq]at ho4;have HO4:=hid ho4;have HB5:=hid hb5;have hown5:=own_below HO.out hb5;obtain⟨y,hy⟩:∃y,us[j]? = some y:=⟨us[j]'(by rw[HUL.out];omega),List.getElem?_eq_getElem _⟩;have k1:w4.cell? ⟨w1.heap.size,j,none⟩=some y:=(hown5.cellAt j (by omega)).trans hy;have k2:w4.frozen? ⟨w1.heap.size,j,none⟩=false:=hown5.frozenAt j;have HO6:=hid (hown5.stored j v4);obtain⟨A4,c4,e4⟩:=slc_form (Slc.of_own ho4);subst e4;clear hown5 hy ho4 hb5;go_wp2;go_roundg (L.length - (j+1));case measure=>omega
    case rel=>
     have hn4:SlN w4 (some w1.heap.size) (.slice A4 (zDv 33 x).length c4) (zDv 33 x):=SlN.of_own HO4.out (fun k e=>by have:=Option.some.inj e;omega);have hs4:=zDi w4 w1.heap.size j (.slice A4 (zDv 33 x).length c4)
     exact⟨j+1,us.set j (.slice A4 (zDv 33 x).length c4),by omega,by go_num,by rw[List.length_set];exact HUL.out,hid HO6.out.1,hid (fun i u t hi hu ht=>by
      rcases Nat.lt_or_ge i j with h|h
      ·rw[List.getElem?_set_ne (by omega)]at hu
       exact((HU.out i u t h hu ht).below HB5.out).grown hs4 (.inl rfl)
      ·have e:i=j:=by omega
       subst e;rw[List.getElem?_set_self (by rw[HUL.out];omega)]at hu;injection hu with hu
       subst hu;rw[HT.out]at ht;injection ht with ht
       subst ht
       exact hn4.grown hs4 (.inl rfl)),hid ((HBr.out.trans (HB5.out.mono hz4)).setCell (Nat.le_refl _) _)⟩
   ·have hjz:¬((j:Int)<(L.length:Int)):=by omega
    have hje:j=L.length:=by omega
    have HF:Hid (LnV wr wr.heap.size (.slice (some ⟨w1.heap.size,0,none⟩) L.length L.length) (L.map (zDv 33))):=hid (by
     refine⟨some ⟨w1.heap.size,0,none⟩,L.length,by rw[List.length_map],by rw[List.length_map];exact Nat.le_refl _,by rw[List.length_map];omega,fun i fs hi=>?_⟩;rw[List.getElem?_map]at hi;cases hq:L[i]? with
     |none=>rw[hq]at hi;cases hi
     |some t=>
      rw[hq]at hi;injection hi with hi
      subst hi;have hil:i<L.length:=(List.getElem?_eq_some_iff.1 hq).1;have hiu:i<us.length:=by rw[hul];omega
      refine⟨w1.heap.size,0,us[i],rfl,(HO.out.lt _ rfl).2,?_,(HU.out i us[i] t (by omega) (List.getElem?_eq_getElem hiu) hq).fsv⟩;have:=(HO.out.cellAt i (by omega)).trans (List.getElem?_eq_getElem hiu)
      simpa using this)
    clear hje hul HO HU;go_wp2_with fail;go_ret2;exact⟨.slice (some ⟨w1.heap.size,0,none⟩) L.length L.length,by rw[H0.out];rfl,HB.out.trans (HBr.out.mono HB.out.size),fun _=>by rw[←HL.out];exact HF.out⟩
def zDx(skip:Int):List (List (List UInt8))→Nat→Al→Al × Option Nat
 |[],_,a=>(a,none)
 |fs :: r,k,a=>if(k:Int)=skip∨fs=[]then zDx skip r (k+1) a else if(lineS fs a).2 then zDx skip r (k+1) (lineS fs a).1 else(a,some (k+1))
theorem linesK_at{skip:Int}{ls:List (List (List UInt8))}{j:Nat}(hj:j<ls.length)(a:Al) :
  zDx skip (ls.drop j) j a=if(j:Int)=skip∨ls[j]=[]then zDx skip (ls.drop (j+1)) (j+1) a else if(lineS ls[j] a).2 then zDx skip (ls.drop (j+1)) (j+1) (lineS ls[j] a).1 else(a,some (j+1)):=by
 rw[List.drop_eq_getElem_cons hj];rfl
def rt0:Rt:=alRt Al.zero
theorem rt0_C:rt0.C=rtE:=rfl
theorem zJl:rtE.all (·.oneCell')=true:=rt0_C ▸ rt0.one rfl rfl rfl rfl rfl rfl rfl rfl rfl rfl rfl rfl rfl rfl
def ReadR(E:Rt→Int)(skip:Int)(ls:List (List (List UInt8)))(B:Nat)(e:Ending)(w' : World):Prop :=
 match zDx skip ls 0 Al.zero with
 |(_,some n)=>e=.returned (.tuple #[.agg rtE,.int .i64 (n:Int),.int .i64 2])
 |(a,none)=>∃r:Rt,r.plain=alRt a∧(∀(ks:List Nat) w'', (∀k∈ks,k<B)→Fr ks w' w'' → r.at w'' w''.heap.size)∧(E r=0→e=.returned (.tuple #[.agg r.C,.int .i64 (ls.length:Int),.int .i64 0]))∧(E r≠0→e=.returned (.tuple #[.agg rtE,.int .i64 (ls.length:Int),.int .i64 (E r)]))
def ReadP(E:Rt→Int)(skip:Int)(ls:List (List (List UInt8)))(w:World)(e:Ending)(w' : World):Prop:=Below w.heap.size w w' ∧ ReadR E skip ls w.heap.size e w'
theorem zCt{P:Program}{fn:Func}{tmps:Array Value}{w:World}{k j i:Nat}{T:TypeId}{g:Addr}{v u t:Value}(hf:fn.results=#[.cell k T,.tmp j,.tmp i])(hk:tmps.getD k undef=.pointer (some g))
  (hj:tmps.getD j undef=u) (hi:tmps.getD i undef=t) (hl:(loadVar T g).run P w=.ok v w):(results fn tmps).run P w=.ok (.tuple #[v,u,t]) w:=by
 rw[Array.getD_eq_getD_getElem?]at hk hj hi;unfold results;simp[hf,hk,hj,hi,asAddr,hl]
theorem LnV.at{w:World}{B:Nat}{v:Value}{ls:List (List (List UInt8))}(h:LnV w B v ls){j:Nat}(hj:j<ls.length):∃g o c u,v=.slice (some ⟨g,o,none⟩) ls.length c∧w.cell? ⟨g,o+j,none⟩=some u∧FsV w B u ls[j]:=by
 obtain⟨A,c,rfl,h1,h2,h3⟩:=h;obtain⟨g,o,u,rfl,hg,hc,hf⟩:=h3 j ls[j] (List.getElem?_eq_getElem hj);exact⟨g,o,c,u,rfl,hc,hf⟩
def Av.zero:Av:=⟨.slice none 0 0,.slice none 0 0,.slice none 0 0,.slice none 0 0,.slice none 0 0,.slice none 0 0,.slice none 0 0,.slice none 0 0,.slice none 0 0,.slice none 0 0,.slice none 0 0,.slice none 0 0,.slice none 0 0,.slice none 0 0,.pointer none,.pointer none,[],[],[]⟩
theorem RZ.zero{w w' : World}(hh:HasC 166 w.heap.size (AlC Al.zero Av.zero) w')(hB:Below w.heap.size w w'):RZ w.heap.size w.heap.size w Al.zero w' := by
 have hr:∀r∈AlR Al.zero Av.zero,r.own w' w.heap.size∧r.v.ownBlock=none:=by
  intro r hr;simp only[AlR,rowsP,rowsM,rowsA,zJy,Al.zero,Av.zero,List.flatMap_nil,List.mem_cons,List.mem_append,List.not_mem_nil,or_false]at hr;rcases hr with rfl|rfl|rfl|rfl|rfl|rfl|rfl|rfl|rfl|rfl|rfl|(rfl|rfl)|rfl
  ·exact⟨OwnE.nil (cells:=If.C),rfl⟩
  ·exact⟨OwnE.nil (cells:=Tr.C),rfl⟩
  ·exact⟨OwnE.nil (cells:=Sr.C),rfl⟩
  ·exact⟨OwnE.nil (cells:=AR.C),rfl⟩
  ·exact⟨OwnE.nil (cells:=Rd.C),rfl⟩
  ·exact⟨OwnE.nil (cells:=Rd.C),rfl⟩
  ·exact⟨OwnE.nil (cells:=Nb.C),rfl⟩
  ·exact⟨OwnE.nil (cells:=Pf.C),rfl⟩
  ·exact⟨OwnE.nil (cells:=Ag.C),rfl⟩
  ·exact⟨OwnE.nil (cells:=Cd.C),rfl⟩
  ·exact⟨OwnE.nil (cells:=Rd.C),rfl⟩
  ·exact⟨OwnE.nil (cells:=Lm.C (α:=PRule)),rfl⟩
  ·exact⟨OwnE.nil (cells:=Lm.C (α:=Cl)),rfl⟩
  ·exact⟨OwnE.nil (cells:=Lm.C (α:=Ru)),rfl⟩
 have hbl:blks (AlR Al.zero Av.zero)=[]:=by
  unfold blks;rw[List.filterMap_eq_nil_iff];exact fun r h=>(hr r h).2
 refine⟨Av.zero,⟨hh,⟨fun r h=>(hr r h).1,?_⟩,hB,by rw[hbl];exact List.not_mem_nil,Nat.le_refl _,Nat.le_refl _⟩,⟨rfl,rfl,rfl⟩,fun h=>absurd (show(0:Int)=1 from h) (by decide),fun h=>absurd (show(0:Int)=2 from h) (by decide)⟩;show(blks (AlR Al.zero Av.zero)).Nodup;rw[hbl];exact List.nodup_nil
theorem alRt_fit{k:Nat}{a:Al}(h:AlOk k a){r:Rt}(hp:r.plain=alRt a):r.fit:=by
 have hL:∀x∈r.lists,x.fit:=fun x hx=>by
  have h1:(⟨x.name,.slice none 0 0,x.rules⟩:PList)∈r.plain.lists:=List.mem_map.2 ⟨x,hx,rfl⟩;rw[hp]at h1;obtain⟨l,hl,e⟩:=List.mem_map.1 h1;injection e with _ _ e
  have h2:=(h.lists.2 l hl).items.2;rw[e]at h2;exact h2
 have hM:∀x∈r.maps,x.fit:=fun _ _=>trivial
 have hA:∀x∈r.acls,x.fit:=fun x hx=>by
  have h1:(⟨x.name,.slice none 0 0,x.rules⟩:AList)∈r.plain.acls:=List.mem_map.2 ⟨x,hx,rfl⟩;rw[hp]at h1;obtain⟨l,hl,e⟩:=List.mem_map.1 h1;injection e with _ _ e
  have h2:=(h.acls.2 l hl).items.2;rw[e]at h2;exact h2
 have e:∀{α:Type} (f:Rt→α),f r.plain=f (alRt a):=fun f=>by rw[hp]
 refine⟨?_,hL,hM,hA,?_,?_,?_,?_,?_,?_,?_,?_,?_,?_⟩
 ·rw[show r.ifs=a.ifs from e Rt.ifs];exact h.ifs.2
 ·rw[show r.nat=a.nat from e Rt.nat];exact h.nat.2
 ·rw[show r.stat=a.stat from e Rt.stat];exact h.stat.2
 ·rw[show r.ranges=a.ranges from e Rt.ranges];exact h.ranges.2
 ·rw[show r.lsRed=a.lsRed from e Rt.lsRed];exact h.lsRed.2
 ·rw[show r.dvRed=a.dvRed from e Rt.dvRed];exact h.dvRed.2
 ·rw[show r.nb=a.nb from e Rt.nb];exact h.nb.2
 ·rw[show r.net=a.net from e Rt.net];exact h.net.2
 ·rw[show r.ag=a.ag from e Rt.ag];exact h.ag.2
 ·rw[show r.cd=a.cd from e Rt.cd];exact h.cd.2
 ·rw[show r.pvRed=a.pvRed from e Rt.pvRed];exact h.pvRed.2
theorem read_easy(E:Rt→Int)(CR:∀(r:Rt) (w:World) (B:Nat),r.at w B→B≤w.heap.size→r.fit→Calls Tryz.prog 8 #[.agg r.C] w fun e w' => e=.returned (.int .i64 (E r))∧Below w.heap.size w w')
  (v:Value) (ls:List (List (List UInt8))) (skip:Int) (w:World) (h:LnV w w.heap.size v ls) (hn:ls.length≤100000) (hs:∀fs∈ls,∀f∈fs,f.length≤1000000000) (he:EnvA w.heap.size w) (hz:∀fs∈ls,fs≠[]→Easy fs) :
  Calls Tryz.prog 75 #[v,.int .i64 skip] w (ReadP E skip ls w):=by
 obtain⟨A0,c0,rfl⟩:∃A0 c0,v=.slice A0 ls.length c0:=by obtain⟨A0,c0,e0,-⟩:=h;exact⟨A0,c0,e0⟩
 have HLN:=hid h;have HN:=hid hn;have HS:=hid hs;have HE:=hid he;have HCR:=hid CR;have HZ0:=hid hz;clear h hn hs he CR hz;go_enter Tryz.func75,Tryz.ntmps75;go_upto_region 1 with(fail)
 have HRES:=hid (HasC.new w 41 rtE);have HB1:=hid ((Below.refl w.heap.size w).alloc (Nat.le_refl _) (.cells rtE 41));change Code.wp _ _ _ _ (w.alloc (.cells rtE 41));generalize w.alloc (.cells rtE 41)=wA at HRES HB1⊢;go_upto_region 2 with(fail)
 have HG:Hid (HasC 166 wA.heap.size (AlC Al.zero Av.zero) (wA.alloc (.cells (AlC Al.zero Av.zero) 166))):=hid (HasC.new _ _ _);have HZ:=hid (RZ.zero HG.out ((Below.refl _ wA).alloc (Nat.le_refl _) _));have hlt:=zCv HRES.out;have HEA:Hid (EnvA wA.heap.size wA):=hid (by have h:=HE.out.keep HB1.out;exact h.up HB1.out.size)
 have HLA:Hid (LnV wA wA.heap.size (.slice A0 ls.length c0) ls):=hid (by
  obtain⟨A,c,e,h1,h2,h3⟩:=HLN.out.below HB1.out;refine⟨A,c,e,h1,h2,fun j fs hj=>?_⟩;obtain⟨g,o,u,e,hg,hc,A', c', e', h1', h2'⟩:=h3 j fs hj
  exact⟨g,o,u,e,Nat.lt_of_lt_of_le hg HB1.out.size,hc,A', c', e', h1', h2'.mono HB1.out.size⟩)
 clear HG;change Code.wp _ _ _ _ (wA.alloc (.cells (AlC Al.zero Av.zero) 166));generalize wA.alloc (.cells (AlC Al.zero Av.zero) 166)=w2 at HZ⊢;go_wp2;go_loopg [16] ls.length (fun gh ix wr=>∃(j:Nat) (a:Al),j+gh=ls.length∧ix=.int .i64 j∧Hid (RZ wA.heap.size wA.heap.size wA a wr)∧Hid (AlOk j a)∧Hid (zDx skip (ls.drop j) j a=zDx skip ls 0 Al.zero));case atStart=>exact⟨0,Al.zero,by omega,rfl,HZ,hid (AlOk.zero 0),hid rfl⟩
 case round=>
  clear HZ;obtain⟨j,a,hj,rfl,HZ,HK,HL⟩:=hrel;have hmx:=HN.out;by_cases hjl:j<ls.length;case pos=>
   obtain⟨gf,of,cf,u,e', cu,hfu⟩:=HLA.out.at hjl;injection e' with e1 e2 e3
   subst e1 e3
   have cu2:wr.cell? ⟨gf,of+j,none⟩=.some u:=by
    obtain⟨A,c,e,-,-,h3⟩:=HLA.out;obtain⟨g', o', u', e'', hg',-⟩:=h3 j ls[j] (List.getElem?_eq_getElem hjl);injection e with e1 _ _
    rw[e'']at e1;injection e1 with e1
    injection e1 with e1 _ _
    subst e1;exact(HZ.out.below.cell (p:=⟨gf,of+j,none⟩) hg').trans cu
   have HAT:=hid (linesK_at (skip:=skip) hjl a);have HFU:=hid (hfu.below HZ.out.below);have HSF:=hid (HS.out _ (List.getElem_mem hjl));have HEZ:=hid (HZ0.out _ (List.getElem_mem hjl));obtain⟨Au,cc,eu,-⟩:=hfu;have hjz:(j:Int)<(ls.length:Int):=by omega
   generalize ls[j]=fs at HAT HFU HSF HEZ eu;subst eu;clear e2 cu;by_cases hsk:(j:Int)=skip
   ·have ds:((j:Int)==skip)=true:=by simpa using hsk
    have E1:Hid (zDx skip (ls.drop (j+1)) (j+1) a=zDx skip ls 0 Al.zero):=hid (by rw[←HL.out,HAT.out,if_pos (.inl hsk)]);clear hsk;go_wp2;go_roundg (ls.length - (j+1));case measure=>omega
    case rel=>exact⟨j+1,a,by omega,by go_num,HZ,hid (HK.out.up (Nat.le_succ _)),E1⟩
   have ds:((j:Int)==skip)=false:=by simpa using hsk
   obtain⟨nf,hnf⟩:∃nf,nf=fs.length:=⟨_,rfl⟩;have HNF:=hid hnf;rw[←hnf]at cu2;clear hnf;rcases Nat.eq_zero_or_pos nf with h0|h0
   ·subst h0
    have E1:Hid (zDx skip (ls.drop (j+1)) (j+1) a=zDx skip ls 0 Al.zero):=hid (by rw[←HL.out,HAT.out,if_pos (.inr (List.eq_nil_of_length_eq_zero HNF.out.symm))]);clear hsk;go_wp2;go_roundg (ls.length - (j+1));case measure=>omega
    case rel=>exact⟨j+1,a,by omega,by go_num,HZ,hid (HK.out.up (Nat.le_succ _)),E1⟩
   have hne:fs≠[]:=by intro e;have:=HNF.out;rw[e]at this;simp at this;omega
   have dn:((nf:Int)==0)=false:=by simp;omega
   have HLine:=hid (line_easy wA.heap.size wA.heap.size wA a (.slice Au fs.length cc) fs wr HZ.out (HK.out.up (by omega)) HEA.out HFU.out hne (HEZ.out hne) HSF.out);rw[←HNF.out]at HLine;have HC:Hid (zDx skip ls 0 Al.zero=if(lineS fs a).2 then zDx skip (ls.drop (j+1)) (j+1) (lineS fs a).1 else(a,some (j+1))):=hid (by rw[←HL.out,HAT.out,if_neg (fun h=>h.elim hsk hne)]);clear hsk hne h0;go_wp2_with fail;refine HLine.out.mono ?_;rintro e w5 ⟨rfl,hz5⟩;have HZ5:=hid hz5;clear hz5;cases hok:(lineS fs a).2 with
   |true=>
    have E1:Hid (zDx skip (ls.drop (j+1)) (j+1) (lineS fs a).1=zDx skip ls 0 Al.zero):=hid (by rw[HC.out,if_pos hok]);clear hok;go_wp2;go_roundg (ls.length - (j+1));case measure=>omega
    case rel=>exact⟨j+1,(lineS fs a).1,by omega,by go_num,HZ5,hid (lineS_ok HK.out fs),E1⟩
   |false=>
    have E1:Hid (zDx skip ls 0 Al.zero=(a,some (j+1))):=hid (by rw[HC.out,if_neg (by rw[hok];decide)]);have HR5:=hid (HRES.out.below HZ5.out.below hlt);clear hok;go_wp2_with (first|(refine zAd rfl 41 _ _ rfl rfl (ds:=rtE) rfl HR5.out rfl Tryz.sizeRt zJl ?_;intro wz hz1 hz2));refine bodyPost_ret (zCt rfl rfl rfl rfl (hz1.loadR Tryz.rowRt Tryz.sizeRt)) rfl ?_;have hbz:Below w.heap.size w wz:=(HB1.out.trans (HZ5.out.below.mono HB1.out.size)).trans (zBj hz2 (Nat.le_refl _) (Nat.le_trans HB1.out.size HZ5.out.below.size));unfold ReadP ReadR;rw[E1.out];exact⟨hbz,by go_num⟩
  case neg=>
   have hjz:¬((j:Int)<(ls.length:Int)):=by omega
   have EL:Hid (zDx skip ls 0 Al.zero=(a,none)):=hid (by rw[←HL.out,List.drop_of_length_le (by omega)];rfl);have HRT:=hid (router_any wA.heap.size wA.heap.size wA a wr HZ.out (HK.out.up (by omega)));clear HL hjl;go_wp2_with fail;refine HRT.out.mono ?_;rintro e w3 ⟨r,rfl,hb3,hpl,hat⟩;have HB3:=hid hb3;have HPL:=hid hpl;have HAT:=hid hat;have HA3:=hid (hat [] w3 (fun _ h=>by cases h) (Fr.refl _ _));clear hb3 hpl hat HRT;go_upto_region 10 with(first|(refine zAd rfl 41 _ _ rfl rfl (ds:=r.C) rfl (HasC.new _ _ _) rfl Tryz.sizeRt HA3.out.one ?_;intro w4 hz1 hz2))
   have HB4:=hid (zAi hz2);have X4:=hid hz1;have HA4:=hid (HA3.out.below HB4.out);have HCR4:=hid (HCR.out r w4 w3.heap.size HA4.out HB4.out.size (alRt_fit HK.out HPL.out));clear hz1 hz2;go_wp2_with (first|(refine zAa rfl _ _ rfl rfl X4.out.range Tryz.rowRt Tryz.sizeRt ?_));refine HCR4.out.mono ?_;rintro e w5 ⟨rfl,hb5⟩;have HB5:=hid hb5;have HBA:Hid (Below wA.heap.size wA w5):=hid (HZ.out.below.trans ((HB3.out.trans ((HB4.out.trans (hb5.mono HB4.out.size)).mono HB3.out.size)).mono HZ.out.below.size));have HR5:=hid (HRES.out.below HBA.out hlt);have HF5:Hid (Fr [w.heap.size] w3 w5):=hid (Fr.of_below (HB4.out.trans (hb5.mono HB4.out.size)));have X5:=hid (X4.out.keep hb5);have HBW:Hid (Below w.heap.size w w5):=hid (HB1.out.trans (HBA.out.mono HB1.out.size));clear hb5 HCR4;cases hE:(E r != 0)with
   |true=>
    have hne:E r≠0:=by simpa using hE
    have HNE:=hid hne;clear hne;go_wp2_with (first|(refine zAd rfl 41 _ _ rfl rfl (ds:=rtE) rfl HR5.out rfl Tryz.sizeRt zJl ?_;intro wz hz1 hz2));refine bodyPost_ret (zCt rfl rfl rfl rfl (hz1.loadR Tryz.rowRt Tryz.sizeRt)) rfl ?_;unfold ReadP ReadR;rw[EL.out];exact⟨HBW.out.trans (zBj hz2 (Nat.le_refl _) HBW.out.size),r,HPL.out,fun ks wq hk hf=>HAT.out (w.heap.size :: ks) wq (fun k hm=>(List.mem_cons.1 hm).elim (fun e=>e ▸ hlt) (fun hm=>Nat.lt_trans (hk k hm) hlt)) (((HF5.out.trans (Fr.ofOne hz2 (by simp))).mono (fun k hm=>by simp at hm;subst hm;exact List.mem_cons_self)).trans (hf.mono (fun k hm=>List.mem_cons_of_mem _ hm))),fun h=>absurd h HNE.out,fun _=>rfl⟩
   |false=>
    have h0:E r=0:=by simpa using hE
    have H0:=hid h0;clear h0;go_wp2_with (first|(refine zAa rfl _ _ rfl rfl X5.out.range Tryz.rowRt Tryz.sizeRt ?_)|(refine zAd rfl 41 _ _ rfl rfl (ds:=r.C) rfl HR5.out rfl Tryz.sizeRt HA3.out.one ?_;intro wz hz1 hz2));refine bodyPost_ret (zCt rfl rfl rfl rfl (hz1.loadR Tryz.rowRt Tryz.sizeRt)) rfl ?_;unfold ReadP ReadR;rw[EL.out];exact⟨HBW.out.trans (zBj hz2 (Nat.le_refl _) HBW.out.size),r,HPL.out,fun ks wq hk hf=>HAT.out (w.heap.size :: ks) wq (fun k hm=>(List.mem_cons.1 hm).elim (fun e=>e ▸ hlt) (fun hm=>Nat.lt_trans (hk k hm) hlt)) (((HF5.out.trans (Fr.ofOne hz2 (by simp))).mono (fun k hm=>by simp at hm;subst hm;exact List.mem_cons_self)).trans (hf.mono (fun k hm=>List.mem_cons_of_mem _ hm))),fun _=>rfl,fun h=>absurd H0.out h⟩
theorem fieldsGo_short(cm:Int):∀(l:List UInt8) (o:Option (List UInt8)),∀x∈zBg cm o l,x.length≤(o.getD []).length+l.length:=by
 intro l;induction l with
 |nil=>
  intro o x h;cases o with
  |none=>simp[zBg]at h
  |some y=>simp[zBg]at h;subst h;simp
 |cons c r ih=>
  intro o x h;cases o with
  |none=>
   unfold zBg at h;split at h
   ·have:=ih none x h;simp at this⊢;omega
   ·split at h
    ·simp at h
    ·have:=ih _ x h;simp at this⊢;omega
  |some y=>
   unfold zBg at h;split at h
   ·rcases List.mem_cons.1 h with h|h
    ·subst h;simp
    ·have:=ih none x h;simp at this⊢;omega
   ·have:=ih _ x h;simp at this⊢;omega
theorem fieldsOf_short(cm:Int)(l:List UInt8):∀x∈zDv cm l,x.length≤l.length:=fun x h=>by
 have:=fieldsGo_short cm l none x h;simpa using this
def zGa(l:List UInt8):List (List (List UInt8)):=(zFz l).map (zDv 33)
def ParseP(E:Rt→Int)(l:List UInt8)(w:World)(e:Ending)(w' : World):Prop :=
 Below w.heap.size w w' ∧ (zBs l≠0→e=.returned (.tuple #[.agg rtE,.int .i64 0,.int .i64 (zBs l)]))∧(zBs l=0→ReadR E (-1) (zGa l) w.heap.size e w')
theorem parse_easy(E:Rt→Int)(CR:∀(r:Rt) (w:World) (B:Nat),r.at w B→B≤w.heap.size→r.fit→Calls Tryz.prog 8 #[.agg r.C] w fun e w' => e=.returned (.int .i64 (E r))∧Below w.heap.size w w')
  (s:ByteArray) (w:World) (he:EnvA w.heap.size w) (hz:∀fs∈zGa (bytes s),fs≠[]→Easy fs):Calls Tryz.prog 25 #[.string s] w (ParseP E (bytes s) w):=by
 have HE:=hid he;have HCR:=hid CR;have HZ0:=hid hz;clear he CR hz;go_enter Tryz.func25,Tryz.ntmps25;go_upto_region 1 with(fail)
 have HRES:=hid (HasC.new w 41 rtE);have HB1:=hid ((Below.refl w.heap.size w).alloc (Nat.le_refl _) (.cells rtE 41));change Code.wp _ _ _ _ (w.alloc (.cells rtE 41));generalize w.alloc (.cells rtE 41)=wA at HRES HB1⊢;have hlt:=zCv HRES.out;go_wp2_with fail;refine(split_any s wA).mono ?_;rintro e w1 ⟨v1,rfl,hb1,hln⟩;generalize bytes s=l at *;have HB2:=hid hb1;have HR1:=hid (HRES.out.below hb1 hlt);have HBW:Hid (Below w.heap.size w w1):=hid (HB1.out.trans (hb1.mono HB1.out.size));clear hb1;cases hE:(zBs l != 0)with
 |true=>
  have hne:zBs l≠0:=by simpa using hE
  have HNE:=hid hne;clear hne hln;go_wp2_with (first|(refine zAd rfl 41 _ _ rfl rfl (ds:=rtE) rfl HR1.out rfl Tryz.sizeRt zJl ?_;intro wz hz1 hz2));refine bodyPost_ret (zCt rfl rfl rfl rfl (hz1.loadR Tryz.rowRt Tryz.sizeRt)) rfl ?_;exact⟨HBW.out.trans (zBj hz2 (Nat.le_refl _) HBW.out.size),fun _=>rfl,fun h=>absurd h HNE.out⟩
 |false=>
  have h0:zBs l=0:=by simpa using hE
  have hl:=hln h0;have hsh:=lines_short h0
  have HRD:=hid (read_easy E HCR.out v1 (zGa l) (-1) w1 hl (by unfold zGa;rw[List.length_map];omega) (fun fs hfs f hf=>by
   obtain⟨t,ht,rfl⟩:=List.mem_map.1 hfs;have h1:=fieldsOf_short 33 t f hf;have h2:=hsh.2 t ht
   omega) (by have h:=HE.out.keep HBW.out;exact h.up HBW.out.size) HZ0.out)
  have H0:=hid h0;have hlt1:w.heap.size<w1.heap.size:=Nat.lt_of_lt_of_le hlt HB2.out.size;clear h0 hl hsh hln;go_wp2_with fail;refine HRD.out.mono ?_;rintro e w2 ⟨hb2,hr⟩;have HB3:=hid hb2;have HR2:=hid (HR1.out.below hb2 hlt1);have HBX:Hid (Below w.heap.size w w2):=hid (HBW.out.trans (hb2.mono HBW.out.size));clear hb2;unfold ReadR at hr;cases hlk:zDx (-1) (zGa l) 0 Al.zero with
  |mk a o=>
  rw[hlk]at hr;have HLK:=hid hlk;clear hlk;cases o with
  |some n=>
   obtain rfl:e=_:=hr;go_wp2_with (first|(refine zAd rfl 41 _ _ rfl rfl (ds:=rtE) rfl HR2.out rfl Tryz.sizeRt zJl ?_;intro wz hz1 hz2));refine bodyPost_ret (zCt rfl rfl rfl rfl (hz1.loadR Tryz.rowRt Tryz.sizeRt)) rfl ?_;exact⟨HBX.out.trans (zBj hz2 (Nat.le_refl _) HBX.out.size),fun h=>absurd H0.out h,fun _=>by unfold ReadR;rw[HLK.out];rfl⟩
  |none=>
   obtain⟨r,hpl,hat,hr1,hr2⟩:=hr;have HPL:=hid hpl;have HAT:=hid hat;have HA2:=hid (hat [] w2 (fun _ h=>by cases h) (Fr.refl _ _));clear hpl hat;by_cases h0:E r=0
   ·have H00:=hid h0
    obtain rfl:e=_:=hr1 h0;clear h0 hr1 hr2;go_wp2_with (first|(refine zAd rfl 41 _ _ rfl rfl (ds:=r.C) rfl HR2.out rfl Tryz.sizeRt HA2.out.one ?_;intro wz hz1 hz2));refine bodyPost_ret (zCt rfl rfl rfl rfl (hz1.loadR Tryz.rowRt Tryz.sizeRt)) rfl ?_;refine⟨HBX.out.trans (zBj hz2 (Nat.le_refl _) HBX.out.size),fun h=>absurd H0.out h,fun _=>?_⟩;unfold ReadR;rw[HLK.out];exact⟨r,HPL.out,fun ks wq hk hf=>HAT.out (w.heap.size :: ks) wq (fun k hm=>(List.mem_cons.1 hm).elim (fun e=>e ▸ hlt1) (fun hm=>Nat.lt_trans (hk k hm) hlt1)) ((Fr.ofOne hz2 (by simp)).trans (hf.mono (fun k hm=>List.mem_cons_of_mem _ hm))),fun _=>rfl,fun h=>absurd H00.out h⟩
   ·have H00:=hid h0
    obtain rfl:e=_:=hr2 h0;clear h0 hr1 hr2;go_wp2_with (first|(refine zAd rfl 41 _ _ rfl rfl (ds:=rtE) rfl HR2.out rfl Tryz.sizeRt zJl ?_;intro wz hz1 hz2));refine bodyPost_ret (zCt rfl rfl rfl rfl (hz1.loadR Tryz.rowRt Tryz.sizeRt)) rfl ?_;refine⟨HBX.out.trans (zBj hz2 (Nat.le_refl _) HBX.out.size),fun h=>absurd H0.out h,fun _=>?_⟩;unfold ReadR;rw[HLK.out];exact⟨r,HPL.out,fun ks wq hk hf=>HAT.out (w.heap.size :: ks) wq (fun k hm=>(List.mem_cons.1 hm).elim (fun e=>e ▸ hlt1) (fun hm=>Nat.lt_trans (hk k hm) hlt1)) ((Fr.ofOne hz2 (by simp)).trans (hf.mono (fun k hm=>List.mem_cons_of_mem _ hm))),fun h=>absurd h H00.out,fun _=>rfl⟩
def saneT:List UInt8:=[104,111,115,116,110,97,109,101,32,114,49,10,105,110,116,101,114,102,97,99,101,32,101,48,10,32,97,100,100,114,101,115,115,32,49,48,46,48,46,48,46,49,47,50,52,10,32,110,111,32,115,104,117,116,100,111,119,110,32,33,32,117,112,10,114,111,117,116,101,32,48,46,48,46,48,46,48,47,48,32,100,105,115,99,97,114,100,10]
def saneU:List UInt8:=[104,111,115,116,110,97,109,101,32,114,49,10,97,100,100,114,101,115,115,32,49,48,46,48,46,48,46,49,47,50,52,10]
def saneA:Al:={ Al.zero with name:=[114,49],ifs:=[⟨[101,48],167772161,24,0,false,false,0,0,false,[],[],0⟩],stat:=[⟨0,0,0,[],true,1,0⟩],iface:=0 }
theorem saneT_err:zBs saneT=0:=by decide
theorem saneU_err:zBs saneU=0:=by decide
theorem saneT_len:(zGa saneT).length=5:=by decide
theorem saneT_run:zDx (-1) (zGa saneT) 0 Al.zero=(saneA,none):=by kernel_rfl
theorem saneU_run:(zDx (-1) (zGa saneU) 0 Al.zero).2=some 2:=by kernel_rfl
theorem saneT_easy:∀fs∈zGa saneT,fs≠[]→Easy fs:=by
 rw[show zGa saneT=[[[104,111,115,116,110,97,109,101],[114,49]],[[105,110,116,101,114,102,97,99,101],[101,48]],[[97,100,100,114,101,115,115],[49,48,46,48,46,48,46,49,47,50,52]],[[110,111],[115,104,117,116,100,111,119,110]],[[114,111,117,116,101],[48,46,48,46,48,46,48,47,48],[100,105,115,99,97,114,100]]] by decide];intro fs h _;simp only[List.mem_cons,List.not_mem_nil,or_false]at h;rcases h with rfl|rfl|rfl|rfl|rfl
 ·exact .inl ⟨_,_,rfl,.inl rfl⟩
 ·exact .inl ⟨_,_,rfl,.inr (.inl rfl)⟩
 ·exact .inl ⟨_,_,rfl,.inr (.inr (.inr rfl))⟩
 ·exact .inr ⟨_,rfl⟩
 ·exact .inl ⟨_,_,rfl,.inr (.inr (.inl rfl))⟩
theorem saneU_easy:∀fs∈zGa saneU,fs≠[]→Easy fs:=by
 rw[show zGa saneU=[[[104,111,115,116,110,97,109,101],[114,49]],[[97,100,100,114,101,115,115],[49,48,46,48,46,48,46,49,47,50,52]]] by decide];intro fs h _;simp only[List.mem_cons,List.not_mem_nil,or_false]at h;rcases h with rfl|rfl
 ·exact .inl ⟨_,_,rfl,.inl rfl⟩
 ·exact .inl ⟨_,_,rfl,.inr (.inr (.inr rfl))⟩
theorem sane_easy(E:Rt→Int)(CR:∀(r:Rt) (w:World) (B:Nat),r.at w B→B≤w.heap.size→r.fit→Calls Tryz.prog 8 #[.agg r.C] w fun e w' => e=.returned (.int .i64 (E r))∧Below w.heap.size w w')
  (h0:∀r:Rt,r.plain=alRt saneA→E r=0) (w:World) (he:EnvA w.heap.size w):Calls Tryz.prog 7 #[] w fun e w' => e=.returned (.bool true)∧Below w.heap.size w w' := by
 have HP1:Hid (Calls Tryz.prog 25 #[.string (str saneT)] w (ParseP E saneT w)):=hid (by have:=parse_easy E CR (str saneT) w he (by rw[zBq];exact saneT_easy);rwa [zBq]at this);have HP2:Hid (∀W,EnvA W.heap.size W→Calls Tryz.prog 25 #[.string (str saneU)] W (ParseP E saneU W)):=hid (fun W hW=>by have:=parse_easy E CR (str saneU) W hW (by rw[zBq];exact saneU_easy);rwa [zBq]at this);have HE:=hid he;have H0:=hid h0;clear he CR h0;go_enter Tryz.func7,Tryz.ntmps7;go_wp2_with fail;refine HP1.out.mono ?_;rintro e w1 ⟨hb1,-,hr⟩;replace hr:=hr saneT_err;unfold ReadR at hr;rw[saneT_run,saneT_len]at hr;obtain⟨r,hpl,hat,hr1,-⟩:=hr;obtain rfl:e=_:=hr1 (H0.out r hpl);have HPL:=hid hpl;have HAT:=hid hat;have HB1:=hid hb1;have HA1:=hid (hat [] w1 (fun _ h=>by cases h) (Fr.refl _ _));clear hpl hat hb1 hr1;go_upto_region 2 with(refine zAd rfl 41 _ _ rfl rfl (ds:=r.C) rfl (HasC.new _ _ _) rfl Tryz.sizeRt HA1.out.one ?_;intro w2 hz1 hz2)
 have HB2:=hid (zAi hz2);have X2:=hid hz1
 have HE2:Hid (EnvA w2.heap.size w2):=hid (by
  have h:=HE.out.keep (HB1.out.trans (HB2.out.mono HB1.out.size))
  exact h.up (Nat.le_trans HB1.out.size HB2.out.size))
 have hlt:w1.heap.size<w2.heap.size:=zCv hz1;clear hz1 hz2;go_wp2_with fail;refine(HP2.out w2 HE2.out).mono ?_;rintro e w3 ⟨hb3,-,hr⟩;replace hr:=hr saneU_err;unfold ReadR at hr;obtain⟨a2,e2⟩:∃a2,zDx (-1) (zGa saneU) 0 Al.zero=(a2,some 2):=⟨_,Prod.ext rfl saneU_run⟩;rw[e2]at hr;obtain rfl:e=_:=hr;have HB3:=hid hb3;clear hb3 e2;go_upto_region 3 with(refine zAd rfl 41 _ _ rfl rfl (ds:=rtE) rfl (HasC.new _ _ _) rfl Tryz.sizeRt zJl ?_;intro w4 hz1 hz2)
 have HB4:Hid (Below w2.heap.size w2 w4):=hid (HB3.out.trans ((zAi hz2).mono HB3.out.size));clear hz1 hz2;have X4:=hid (X2.out.keep HB4.out);have HA4:=HAT.out [] w4 (fun _ h=>by cases h) (Fr.of_below (HB2.out.trans (HB4.out.mono HB2.out.size)));have HBF:Hid (Below w.heap.size w w4):=hid (HB1.out.trans ((HB2.out.trans (HB4.out.mono HB2.out.size)).mono HB1.out.size));have hn:r.name=[114,49]:=congrArg Rt.name HPL.out;have hi:r.ifs=saneA.ifs:=congrArg Rt.ifs HPL.out;have hs:r.stat=saneA.stat:=congrArg Rt.stat HPL.out;have S1:=HA4.hifs;have S2:=HA4.hstat;rw[hi]at S1;rw[hs]at S2;obtain⟨gi,oi,ci,ei,-,hgi,Ri⟩:=S1.elem (n:=12) (by decide) (fun _=>rfl) (k:=0) (by decide);obtain⟨As,cs,es,-⟩:=S2;have k0:w4.cell? ⟨w1.heap.size,0,none⟩=.some (.string (str [114,49])):=(X4.out.cell 0).trans (by show some (strV r.name)=_;rw[hn];rfl);have k2:w4.cell? ⟨w1.heap.size,2,none⟩=.some (.slice (some ⟨gi,oi,none⟩) 1 ci):=(X4.out.cell 2).trans (by show some r.ifsV=_;rw[ei];rfl);have k7:w4.cell? ⟨w1.heap.size,7,none⟩=.some (.slice As 1 cs):=(X4.out.cell 7).trans (by show some r.statV=_;rw[es];rfl)
 have kd:w4.cell? ⟨gi,oi+4,none⟩=.some (.bool false):=by
  have:=Ri 4 _ rfl;rw[Nat.zero_mul,Nat.add_zero]at this;exact this
 have kq:((str [114,49]).toList==[114,49])=true:=by rw[zAe];rfl
 clear S1 Ri ei es HA4 hn hi hs hgi;go_wp2;go_ret;exact⟨rfl,HBF.out⟩
end Go.Proofs.YthcnojmldldpeaaGreatDoor
