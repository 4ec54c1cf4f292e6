/- The walk of netverifyref8.Same over equal routers. Condition: what is compared lies in memory. -/
import Derived.Test.YtdlgnhefpoalnaaGreatDoorHx
import Derived.StillTailTactics
import Derived.Deep.DeepCutAuto
set_option maxRecDepth 8000
set_option maxHeartbeats 8000000
namespace Go.Proofs.YtdlgnhefpoalnaaGreatDoor
open Lib (hid)
open Go.RowKit
theorem zCu(w:World):Below w.heap.size w w.drew:=⟨rfl,rfl,rfl,Nat.le_refl _,fun _ _=>rfl⟩
theorem SlV.lift{α:Type}{w:World}{B B' n:Nat}{cells:α→Array Value}{v:Value}{xs:List α}(h:SlV w B n cells v xs)(hB:B≤B'):SlV w B' n cells v xs:=by
 obtain⟨A,c,e,h1,h2⟩:=h;exact⟨A,c,e,h1,h2.mono hB⟩
theorem Rt.at.lift{w:World}{B B' : Nat}{r:Rt}(h:r.at w B)(hB:B≤B'):r.at w B' := ⟨h.hifs.lift hB,h.hlists.lift hB,fun x hx=>SlV.lift (h.nlists x hx) hB,h.hmaps.lift hB,fun x hx=>SlV.lift (h.nmaps x hx) hB,h.hacls.lift hB,fun x hx=>SlV.lift (h.nacls x hx) hB,h.hnat.lift hB,h.hstat.lift hB,h.hranges.lift hB,h.hlsRed.lift hB,h.hdvRed.lift hB,h.hnb.lift hB,h.hnet.lift hB,h.hag.lift hB,h.hcd.lift hB,h.hpvRed.lift hB⟩
theorem zHx(u v:Value)(l:List Rd)(w:World)(B:Nat)(hu:SlV w B 5 Rd.C u l)(hv:SlV w B 5 Rd.C v l)(hB:B≤w.heap.size) :
  Calls Tryz.prog 86 #[u,v] w fun e w' => e=.returned (.bool true)∧Below w.heap.size w w' := by
 have hlen:=hu.len;obtain⟨Au,cu,rfl,-⟩:=id hu;obtain⟨Av,cv,rfl,-⟩:=id hv;have HU:=hid (hu.lift hB);have HV:=hid (hv.lift hB);simp only[maxLen]at hlen;have HB:=hid (Below.refl w.heap.size w);clear hu hv;go_enter Tryz.func86,Tryz.ntmps86;go_wp2;go_loopg [5] l.length (fun gh ix wr=>∃j:Nat,j+gh=l.length∧ix=.int .i64 j∧Hid (Below w.heap.size w wr));case atStart=>exact⟨0,by omega,rfl,HB⟩
 case round=>
  clear HB;obtain⟨j,hj,rfl,HB⟩:=hrel;by_cases hjl:j<l.length;case pos=>
   obtain⟨g1,o1,d1,e1,-,hg1,R1⟩:=HU.out.elem (n:=5) (by decide) (fun _=>rfl) hjl;obtain⟨g2,o2,d2,e2,-,hg2,R2⟩:=HV.out.elem (n:=5) (by decide) (fun _=>rfl) hjl;injection e1 with f1 f2 f3
   injection e2 with f4 f5 f6
   subst f1 f3 f4 f6;have r1:=hid (zAe R1 HB.out hg1);have r2:=hid (zAe R2 HB.out hg2);have hjz:(j:Int)<(l.length:Int):=by omega
   generalize l[j]=x at r1 r2;clear R1 R2 f2 f5;obtain⟨ka0,ka1,ka2⟩:=rw3 r1.out;have ka3:wr.cell? ⟨g1,o1+j*5+3,none⟩=.some (.string (str x.map)):=r1.out 3 _ rfl;obtain⟨-,-,-,-,ka4⟩:=rw5 r1.out;obtain⟨kb0,kb1,kb2⟩:=rw3 r2.out;have kb3:wr.cell? ⟨g2,o2+j*5+3,none⟩=.some (.string (str x.map)):=r2.out 3 _ rfl;obtain⟨-,-,-,-,kb4⟩:=rw5 r2.out;go_wp2_with fail;go_still (by kernel_rfl);go_wp2;go_roundg (l.length - (j+1));case measure=>omega
   case rel=>exact⟨j+1,by omega,by go_num,hid (HB.out.trans ((zCu wr).mono HB.out.size))⟩
  case neg=>
   have hjz:¬((j:Int)<(l.length:Int)):=by omega
   go_wp2;go_ret;exact⟨rfl,HB.out⟩
structure SM (a b:Rt) (ba bb:Nat) (w0 w:World):Prop where
 ha:HasC 41 ba a.C w
 hb:HasC 41 bb b.C w
 bel:Below w0.heap.size w0 w
theorem SM.keep{a b:Rt}{ba bb:Nat}{w0 w w' : World}(h:SM a b ba bb w0 w)(hb:Below w.heap.size w w'):SM a b ba bb w0 w' := ⟨h.ha.keep hb,h.hb.keep hb,h.bel.trans (hb.mono h.bel.size)⟩
theorem SM.start(a b:Rt)(w:World):SM a b w.heap.size (w.heap.size+1) w ((w.alloc (.cells a.C 41)).alloc (.cells b.C 41)):=by
 have h1:=HasC.new w 41 a.C;have h2:=HasC.new (w.alloc (.cells a.C 41)) 41 b.C;rw[show(w.alloc (.cells a.C 41)).heap.size=w.heap.size+1 from by simp]at h2;exact⟨h1.keep ((Below.refl _ _).alloc (Nat.le_refl _) _),h2,((Below.refl _ w).alloc (Nat.le_refl _) _).alloc (by simp) _⟩
structure SX (a b:Rt) (ba bb p q:Nat) (T:TypeId) (cp cq:Array Value) (w0 w:World):Prop where
 sm:SM a b ba bb w0 w
 hp:HasC T p cp w
 hq:HasC T q cq w
theorem SX.keep{a b:Rt}{ba bb p q:Nat}{T:TypeId}{cp cq:Array Value}{w0 w w' : World}(h:SX a b ba bb p q T cp cq w0 w)(hb:Below w.heap.size w w'):SX a b ba bb p q T cp cq w0 w' := ⟨h.sm.keep hb,h.hp.keep hb,h.hq.keep hb⟩
theorem zMp(w:World)(T:TypeId)(xs ys:Array Value) :
  HasC T w.heap.size xs ((w.alloc (.cells xs T)).alloc (.cells ys T)).drew∧HasC T (w.heap.size+1) ys ((w.alloc (.cells xs T)).alloc (.cells ys T)).drew∧Below w.heap.size w ((w.alloc (.cells xs T)).alloc (.cells ys T)).drew:=by
 have h1:=(HasC.new w T xs).keep ((Below.refl _ (w.alloc (.cells xs T))).alloc (Nat.le_refl _) (.cells ys T));have h2:=HasC.new (w.alloc (.cells xs T)) T ys;rw[show(w.alloc (.cells xs T)).heap.size=w.heap.size+1 from by simp]at h2;have hB:Below w.heap.size w ((w.alloc (.cells xs T)).alloc (.cells ys T)):=((Below.refl _ w).alloc (Nat.le_refl _) _).alloc (by simp) _;exact⟨h1,h2,hB.trans ((zCu _).mono hB.size)⟩
theorem sx_two{a b:Rt}{ba bb:Nat}{w0 w:World}(h:SM a b ba bb w0 w)(T:TypeId)(xs ys:Array Value):SX a b ba bb w.heap.size (w.heap.size+1) T xs ys w0 ((w.alloc (.cells xs T)).alloc (.cells ys T)).drew:=⟨h.keep (zMp w T xs ys).2.2,(zMp w T xs ys).1,(zMp w T xs ys).2.1⟩
theorem sx_two' {a b:Rt}{ba bb:Nat}{w0 w:World}(h:SM a b ba bb w0 w)(T:TypeId)(xs ys:Array Value):SX a b ba bb (w.heap.size+1) w.heap.size T xs ys w0 ((w.alloc (.cells ys T)).alloc (.cells xs T)).drew:=⟨h.keep (zMp w T ys xs).2.2,(zMp w T ys xs).2.1,(zMp w T ys xs).1⟩
theorem len_lists{a b:Rt}(h:a.plain=b.plain):b.lists.length=a.lists.length∧b.maps.length=a.maps.length∧b.acls.length=a.acls.length:=by
 have h1:=congrArg (fun r=>r.lists.length) h;have h2:=congrArg (fun r=>r.maps.length) h;have h3:=congrArg (fun r=>r.acls.length) h;simp only[Rt.plain,List.length_map]at h1 h2 h3;exact⟨h1.symm,h2.symm,h3.symm⟩
theorem same_lists{a b:Rt}(h:a.plain=b.plain){j:Nat}(hj:j<a.lists.length)(hb:j<b.lists.length):b.lists[j].name=a.lists[j].name∧b.lists[j].rules=a.lists[j].rules:=by
 have h1:=congrArg (fun r=>r.lists[j]?) h;simp only[Rt.plain,List.getElem?_map,List.getElem?_eq_getElem hj,List.getElem?_eq_getElem hb,Option.map_some,Option.some.injEq]at h1;injection h1 with h2 _ h3
 exact⟨h2.symm,h3.symm⟩
theorem same_maps{a b:Rt}(h:a.plain=b.plain){j:Nat}(hj:j<a.maps.length)(hb:j<b.maps.length):b.maps[j].name=a.maps[j].name∧b.maps[j].clauses=a.maps[j].clauses:=by
 have h1:=congrArg (fun r=>r.maps[j]?) h;simp only[Rt.plain,List.getElem?_map,List.getElem?_eq_getElem hj,List.getElem?_eq_getElem hb,Option.map_some,Option.some.injEq]at h1;injection h1 with h2 _ h3
 exact⟨h2.symm,h3.symm⟩
theorem same_acls{a b:Rt}(h:a.plain=b.plain){j:Nat}(hj:j<a.acls.length)(hb:j<b.acls.length):b.acls[j].name=a.acls[j].name∧b.acls[j].rules=a.acls[j].rules:=by
 have h1:=congrArg (fun r=>r.acls[j]?) h;simp only[Rt.plain,List.getElem?_map,List.getElem?_eq_getElem hj,List.getElem?_eq_getElem hb,Option.map_some,Option.some.injEq]at h1;injection h1 with h2 _ h3
 exact⟨h2.symm,h3.symm⟩
theorem pair_rows{α β:Type}{C:α→Array Value}{D:β→Array Value}{sub:α→List β}{val:α→Value}{name:α→List UInt8}{m:Nat}(hC:∀x,C x=#[.string (str (name x)),val x]){w wr:World}{u v:List α}{A A' : Option Addr}{c c' : Nat}(hu:SlV w w.heap.size 2 C (.slice A u.length c) u)(hv:SlV w w.heap.size 2 C (.slice A' u.length c') v)
  (su:∀x∈u,SlV w w.heap.size m D (val x) (sub x)) (sv:∀x∈v,SlV w w.heap.size m D (val x) (sub x)) {j:Nat} (hj:j<u.length) (hjb:j<v.length) (e:name v[j]=name u[j]∧sub v[j]=sub u[j]) (hb:Below w.heap.size w wr) :
  ∃g1 o1 g2 o2 Ax cx Ay cy,A=some ⟨g1,o1,none⟩∧A' = some ⟨g2,o2,none⟩∧Hid (SlV w w.heap.size m D (.slice Ax (sub u[j]).length cx) (sub u[j]))∧Hid (SlV w w.heap.size m D (.slice Ay (sub u[j]).length cy) (sub u[j])) ∧
   wr.cell? ⟨g1,o1+j*2,none⟩=some (.string (str (name u[j])))∧wr.cell? ⟨g1,o1+j*2+1,none⟩=some (.slice Ax (sub u[j]).length cx)∧wr.cell? ⟨g2,o2+j*2,none⟩=some (.string (str (name u[j])))∧wr.cell? ⟨g2,o2+j*2+1,none⟩=some (.slice Ay (sub u[j]).length cy)∧g1<wr.heap.size∧g2<wr.heap.size:=by
 obtain⟨g1,o1,d1,e1,-,hg1,R1⟩:=hu.elem (n:=2) (by decide) (fun x=>by rw[hC];rfl) hj;obtain⟨g2,o2,d2,e2,-,hg2,R2⟩:=hv.elem (n:=2) (by decide) (fun x=>by rw[hC];rfl) hjb;have n1:=su _ (List.getElem_mem hj);have n2:=sv _ (List.getElem_mem hjb);injection e1 with f1 f2 f3
 injection e2 with f4 f5 f6
 have r1:=zAe R1 hb hg1;have r2:=zAe R2 hb hg2;rw[hC]at r1 r2;rw[e.2]at n2;obtain⟨Ax,cx,ex,-⟩:=id n1;obtain⟨Ay,cy,ey,-⟩:=id n2;rw[ex]at n1 r1;rw[ey]at n2 r2;rw[e.1]at r2;exact⟨g1,o1,g2,o2,Ax,cx,Ay,cy,f1,f4,hid n1,hid n2,r1 0 _ rfl,r1 1 _ rfl,r2 0 _ rfl,r2 1 _ rfl,Nat.lt_of_lt_of_le hg1 hb.size,Nat.lt_of_lt_of_le hg2 hb.size⟩
theorem sameLists_any(a b:Rt)(w:World)(B:Nat)(hat:a.at w B)(hbt:b.at w B)(hB:B≤w.heap.size)(hp:a.plain=b.plain) :
  Calls Tryz.prog 24 #[.agg a.C,.agg b.C] w fun e w' => e=.returned (.bool true)∧Below w.heap.size w w' := by
 have hal:=hat.lift hB;have hbl:=hbt.lift hB;have HP:=hid hp;have H0:=hid (SM.start a b w);have HU3:=hid hal.hlists;have HV3:=hid hbl.hlists;have NU3:=hid hal.nlists;have NV3:=hid hbl.nlists;obtain⟨A3,c3,e3,-⟩:=hal.hlists;obtain⟨D3,d3,f3,-⟩:=hbl.hlists;have hl3:=(len_lists hp).1;rw[hl3]at f3;have EA3:=hid e3;have EB3:=hid f3;have HL3:=hid hl3;have ca3:((w.alloc (.cells a.C 41)).alloc (.cells b.C 41)).cell? ⟨w.heap.size,3,none⟩=.some (.slice A3 a.lists.length c3):=by rw[←e3];exact H0.out.ha.cell 3
 have cb3:((w.alloc (.cells a.C 41)).alloc (.cells b.C 41)).cell? ⟨w.heap.size+1,3,none⟩=.some (.slice D3 a.lists.length d3):=by rw[←f3];exact H0.out.hb.cell 3
 clear e3 f3 hl3;have HU4:=hid hal.hmaps;have HV4:=hid hbl.hmaps;have NU4:=hid hal.nmaps;have NV4:=hid hbl.nmaps;obtain⟨A4,c4,e4,-⟩:=hal.hmaps;obtain⟨D4,d4,f4,-⟩:=hbl.hmaps;have hl4:=(len_lists hp).2.1;rw[hl4]at f4;have EA4:=hid e4;have EB4:=hid f4;have HL4:=hid hl4;have ca4:((w.alloc (.cells a.C 41)).alloc (.cells b.C 41)).cell? ⟨w.heap.size,4,none⟩=.some (.slice A4 a.maps.length c4):=by rw[←e4];exact H0.out.ha.cell 4
 have cb4:((w.alloc (.cells a.C 41)).alloc (.cells b.C 41)).cell? ⟨w.heap.size+1,4,none⟩=.some (.slice D4 a.maps.length d4):=by rw[←f4];exact H0.out.hb.cell 4
 clear e4 f4 hl4;have HU5:=hid hal.hacls;have HV5:=hid hbl.hacls;have NU5:=hid hal.nacls;have NV5:=hid hbl.nacls;obtain⟨A5,c5,e5,-⟩:=hal.hacls;obtain⟨D5,d5,f5,-⟩:=hbl.hacls;have hl5:=(len_lists hp).2.2;rw[hl5]at f5;have EA5:=hid e5;have EB5:=hid f5;have HL5:=hid hl5;have ca5:((w.alloc (.cells a.C 41)).alloc (.cells b.C 41)).cell? ⟨w.heap.size,5,none⟩=.some (.slice A5 a.acls.length c5):=by rw[←e5];exact H0.out.ha.cell 5
 have cb5:((w.alloc (.cells a.C 41)).alloc (.cells b.C 41)).cell? ⟨w.heap.size+1,5,none⟩=.some (.slice D5 a.acls.length d5):=by rw[←f5];exact H0.out.hb.cell 5
 clear e5 f5 hl5;clear hal hbl hat hbt hp;go_enter Tryz.func24,Tryz.ntmps24;go_upto_region 3 with(fail)
 clear ca3 ca4 ca5 cb3 cb4 cb5;generalize ((w.alloc (.cells a.C 41)).alloc (.cells b.C 41))=w2 at H0⊢;go_wp2;go_loopg [5] a.lists.length (fun gh ix wr=>∃j:Nat,j+gh=a.lists.length∧ix=.int .i64 j∧Hid (SM a b w.heap.size (w.heap.size+1) w wr));case atStart=>exact⟨0,by omega,rfl,H0⟩
 case round=>
  clear H0;obtain⟨j,hj,rfl,H⟩:=hrel;by_cases hjl:j<a.lists.length;case pos=>
   have hjb:j<b.lists.length:=by rw[HL3.out];exact hjl
   have hjz:(j:Int)<(a.lists.length:Int):=by omega
   obtain⟨g1,o1,g2,o2,Ax,cx,Ay,cy,rfl,rfl,N1,N2,k1,k2,k3,k4,lb1,lb2⟩:=pair_rows (name:=fun x:PList=>x.name) (sub:=fun x=>x.rules) (val:=fun x=>x.v) (fun _=>rfl) (EA3.out ▸ HU3.out) (EB3.out ▸ HV3.out) NU3.out NV3.out hjl hjb (same_lists HP.out hjl hjb) H.out.bel;have lb3:w.heap.size<wr.heap.size:=zAy H.out.ha;have lb4:w.heap.size+1<wr.heap.size:=zAy H.out.hb;have k5:wr.cell? ⟨w.heap.size,3,none⟩=.some (.slice (some ⟨g1,o1,none⟩) a.lists.length c3):=by rw[←EA3.out];exact H.out.ha.cell 3
   have k6:wr.cell? ⟨w.heap.size+1,3,none⟩=.some (.slice (some ⟨g2,o2,none⟩) a.lists.length d3):=by rw[←EB3.out];exact H.out.hb.cell 3
   generalize a.lists[j]=x at N1 N2 k1 k2 k3 k4;go_upto_region 6 with(fail)
   go_cut [6,7] (fun x0 y0 wx=>∃p q:Nat,x0=.pointer (some ⟨p,0,none⟩)∧y0=.pointer (some ⟨q,0,none⟩)∧SX a b w.heap.size (w.heap.size+1) p q 81 #[.string (str x.name),.slice Ax x.rules.length cx] #[.string (str x.name),.slice Ay x.rules.length cy] w wx)
   case first=>
    have k1d:wr.drew.cell? ⟨g1,o1+j*2,none⟩=.some (.string (str x.name)):=k1;have k2d:wr.drew.cell? ⟨g1,o1+j*2+1,none⟩=.some (.slice Ax x.rules.length cx):=k2;have k3d:wr.drew.cell? ⟨g2,o2+j*2,none⟩=.some (.string (str x.name)):=k3;have k4d:wr.drew.cell? ⟨g2,o2+j*2+1,none⟩=.some (.slice Ay x.rules.length cy):=k4;have k5d:wr.drew.cell? ⟨w.heap.size,3,none⟩=.some (.slice (some ⟨g1,o1,none⟩) a.lists.length c3):=k5;have k6d:wr.drew.cell? ⟨w.heap.size+1,3,none⟩=.some (.slice (some ⟨g2,o2,none⟩) a.lists.length d3):=k6;go_region_held3 (fun w' => w'.cell? ⟨g1,o1+j*2,none⟩=.some (.string (str x.name))∧w'.cell? ⟨g1,o1+j*2+1,none⟩=.some (.slice Ax x.rules.length cx)∧w'.cell? ⟨g2,o2+j*2,none⟩=.some (.string (str x.name))∧w'.cell? ⟨g2,o2+j*2+1,none⟩=.some (.slice Ay x.rules.length cy)∧w'.cell? ⟨w.heap.size,3,none⟩=.some (.slice (some ⟨g1,o1,none⟩) a.lists.length c3)∧w'.cell? ⟨w.heap.size+1,3,none⟩=.some (.slice (some ⟨g2,o2,none⟩) a.lists.length d3)) (first|(with_reducible exact⟨k1d,k2d,k3d,k4d,k5d,k6d⟩)|go_keep|(refine⟨?_,?_,?_,?_,?_,?_⟩<;>((repeat first|rw[World.cell?_setCell_other _ _ _ _ (by intro h;simp only[Addr.mk.injEq]at h;omega)]|rw[World.cell?_alloc_lt _ _ _ (by first|assumption|(simp;omega))]);assumption))) (fail)
    all_goals
     go_wp2;go_meet
     first|exact⟨wr.heap.size,wr.heap.size+1,rfl,rfl,sx_two H.out _ _ _⟩|exact⟨wr.heap.size+1,wr.heap.size,rfl,rfl,sx_two' H.out _ _ _⟩
   case rest=>
    obtain⟨p,q,rfl,rfl,hx⟩:=hcut;have HX:=hid hx;clear hx k1 k2 k3 k4 k5 k6 lb1 lb2 lb3 lb4;have p0:wc.cell? ⟨p,0,none⟩=.some (.string (str x.name)):=HX.out.hp.cell 0;have p1:=cl1 HX.out.hp;have q0:wc.cell? ⟨q,0,none⟩=.some (.string (str x.name)):=HX.out.hq.cell 0;have q1:=cl1 HX.out.hq;have hlx:x.rules.length≤9223372036854775807:=by have:=N1.out.len;simp only[maxLen]at this;exact this
    have hla:a.lists.length≤9223372036854775807:=by have:=HU3.out.len;simp only[maxLen]at this;exact this
    go_wp2_with fail;clear p0 p1 q0 q1 H;go_loopg [8] x.rules.length (fun gh ix wr=>∃i:Nat,i+gh=x.rules.length∧ix=.int .i64 i∧Hid (SX a b w.heap.size (w.heap.size+1) p q 81 #[.string (str x.name),.slice Ax x.rules.length cx] #[.string (str x.name),.slice Ay x.rules.length cy] w wr));case atStart=>exact⟨0,by omega,rfl,HX⟩
    case round=>
     clear HX;obtain⟨i,hi,rfl,HX⟩:=hrel;by_cases hil:i<x.rules.length;case pos=>
      obtain⟨g3,o3,d3,e3,-,hg3,R3⟩:=N1.out.elem (n:=5) (by decide) (fun _=>rfl) hil;obtain⟨g4,o4,d4,e4,-,hg4,R4⟩:=N2.out.elem (n:=5) (by decide) (fun _=>rfl) hil;injection e3 with f1 f2 f3
      injection e4 with f4 f5 f6
      subst f1 f3 f4 f6;have r3:=hid (zAe R3 HX.out.sm.bel hg3);have r4:=hid (zAe R4 HX.out.sm.bel hg4);have hiz:(i:Int)<(x.rules.length:Int):=by omega
      have p1:=cl1 HX.out.hp;have q1:=cl1 HX.out.hq;generalize x.rules[i]=z at r3 r4;clear R3 R4 f2 f5;obtain⟨ka0,ka1,ka2,ka3,ka4⟩:=rw5 r3.out;obtain⟨kb0,kb1,kb2,kb3,kb4⟩:=rw5 r4.out;go_wp2_with fail;go_still (by kernel_rfl);go_wp2;go_roundg (x.rules.length - (i+1));case measure=>omega
      case rel=>exact⟨i+1,by omega,by go_num,hid (HX.out.keep (zCu wr))⟩
     case neg=>
      have hiz:¬((i:Int)<(x.rules.length:Int)):=by omega
      have p1:=cl1 HX.out.hp;go_wp2;go_roundg (a.lists.length - (j+1));case measure=>omega
      case rel=>exact⟨j+1,by omega,by go_num,hid HX.out.sm⟩
  case neg=>
   have hjz:¬((j:Int)<(a.lists.length:Int)):=by omega
   have k5:wr.cell? ⟨w.heap.size,3,none⟩=.some (.slice A3 a.lists.length c3):=by rw[←EA3.out];exact H.out.ha.cell 3
   generalize wr=w90 at H k5⊢;go_wp2_with fail;clear k5 hjz hjl hj;go_loopg [9] a.maps.length (fun gh ix wr=>∃j:Nat,j+gh=a.maps.length∧ix=.int .i64 j∧Hid (SM a b w.heap.size (w.heap.size+1) w wr));case atStart=>exact⟨0,by omega,rfl,H⟩
   case round=>
    clear H;obtain⟨j,hj,rfl,H⟩:=hrel;by_cases hjl:j<a.maps.length;case pos=>
     have hjb:j<b.maps.length:=by rw[HL4.out];exact hjl
     have hjz:(j:Int)<(a.maps.length:Int):=by omega
     obtain⟨g1,o1,g2,o2,Ax,cx,Ay,cy,rfl,rfl,N1,N2,k1,k2,k3,k4,lb1,lb2⟩:=pair_rows (name:=fun x:RMap=>x.name) (sub:=fun x=>x.clauses) (val:=fun x=>x.v) (fun _=>rfl) (EA4.out ▸ HU4.out) (EB4.out ▸ HV4.out) NU4.out NV4.out hjl hjb (same_maps HP.out hjl hjb) H.out.bel;have lb3:w.heap.size<wr.heap.size:=zAy H.out.ha;have lb4:w.heap.size+1<wr.heap.size:=zAy H.out.hb;have k5:wr.cell? ⟨w.heap.size,4,none⟩=.some (.slice (some ⟨g1,o1,none⟩) a.maps.length c4):=by rw[←EA4.out];exact H.out.ha.cell 4
     have k6:wr.cell? ⟨w.heap.size+1,4,none⟩=.some (.slice (some ⟨g2,o2,none⟩) a.maps.length d4):=by rw[←EB4.out];exact H.out.hb.cell 4
     generalize a.maps[j]=x at N1 N2 k1 k2 k3 k4;go_upto_region 17 with(fail)
     go_cut [10,11] (fun x0 y0 wx=>∃p q:Nat,x0=.pointer (some ⟨p,0,none⟩)∧y0=.pointer (some ⟨q,0,none⟩)∧SX a b w.heap.size (w.heap.size+1) p q 84 #[.string (str x.name),.slice Ax x.clauses.length cx] #[.string (str x.name),.slice Ay x.clauses.length cy] w wx)
     case first=>
      have k1d:wr.drew.cell? ⟨g1,o1+j*2,none⟩=.some (.string (str x.name)):=k1;have k2d:wr.drew.cell? ⟨g1,o1+j*2+1,none⟩=.some (.slice Ax x.clauses.length cx):=k2;have k3d:wr.drew.cell? ⟨g2,o2+j*2,none⟩=.some (.string (str x.name)):=k3;have k4d:wr.drew.cell? ⟨g2,o2+j*2+1,none⟩=.some (.slice Ay x.clauses.length cy):=k4;have k5d:wr.drew.cell? ⟨w.heap.size,4,none⟩=.some (.slice (some ⟨g1,o1,none⟩) a.maps.length c4):=k5;have k6d:wr.drew.cell? ⟨w.heap.size+1,4,none⟩=.some (.slice (some ⟨g2,o2,none⟩) a.maps.length d4):=k6;go_region_held3 (fun w' => w'.cell? ⟨g1,o1+j*2,none⟩=.some (.string (str x.name))∧w'.cell? ⟨g1,o1+j*2+1,none⟩=.some (.slice Ax x.clauses.length cx)∧w'.cell? ⟨g2,o2+j*2,none⟩=.some (.string (str x.name))∧w'.cell? ⟨g2,o2+j*2+1,none⟩=.some (.slice Ay x.clauses.length cy)∧w'.cell? ⟨w.heap.size,4,none⟩=.some (.slice (some ⟨g1,o1,none⟩) a.maps.length c4)∧w'.cell? ⟨w.heap.size+1,4,none⟩=.some (.slice (some ⟨g2,o2,none⟩) a.maps.length d4)) (first|(with_reducible exact⟨k1d,k2d,k3d,k4d,k5d,k6d⟩)|go_keep|(refine⟨?_,?_,?_,?_,?_,?_⟩<;>((repeat first|rw[World.cell?_setCell_other _ _ _ _ (by intro h;simp only[Addr.mk.injEq]at h;omega)]|rw[World.cell?_alloc_lt _ _ _ (by first|assumption|(simp;omega))]);assumption))) (fail)
      all_goals
       go_wp2;go_meet
       first|exact⟨wr.heap.size,wr.heap.size+1,rfl,rfl,sx_two H.out _ _ _⟩|exact⟨wr.heap.size+1,wr.heap.size,rfl,rfl,sx_two' H.out _ _ _⟩
     case rest=>
      obtain⟨p,q,rfl,rfl,hx⟩:=hcut;have HX:=hid hx;clear hx k1 k2 k3 k4 k5 k6 lb1 lb2 lb3 lb4;have p0:wc.cell? ⟨p,0,none⟩=.some (.string (str x.name)):=HX.out.hp.cell 0;have p1:=cl1 HX.out.hp;have q0:wc.cell? ⟨q,0,none⟩=.some (.string (str x.name)):=HX.out.hq.cell 0;have q1:=cl1 HX.out.hq;have hlx:x.clauses.length≤9223372036854775807:=by have:=N1.out.len;simp only[maxLen]at this;exact this
      have hla:a.maps.length≤9223372036854775807:=by have:=HU4.out.len;simp only[maxLen]at this;exact this
      go_wp2_with fail;clear p0 p1 q0 q1 H;go_loopg [12] x.clauses.length (fun gh ix wr=>∃i:Nat,i+gh=x.clauses.length∧ix=.int .i64 i∧Hid (SX a b w.heap.size (w.heap.size+1) p q 84 #[.string (str x.name),.slice Ax x.clauses.length cx] #[.string (str x.name),.slice Ay x.clauses.length cy] w wr));case atStart=>exact⟨0,by omega,rfl,HX⟩
      case round=>
       clear HX;obtain⟨i,hi,rfl,HX⟩:=hrel;by_cases hil:i<x.clauses.length;case pos=>
        obtain⟨g3,o3,d3,e3,-,hg3,R3⟩:=N1.out.elem (n:=7) (by decide) (fun _=>rfl) hil;obtain⟨g4,o4,d4,e4,-,hg4,R4⟩:=N2.out.elem (n:=7) (by decide) (fun _=>rfl) hil;injection e3 with f1 f2 f3
        injection e4 with f4 f5 f6
        subst f1 f3 f4 f6;have r3:=hid (zAe R3 HX.out.sm.bel hg3);have r4:=hid (zAe R4 HX.out.sm.bel hg4);have hiz:(i:Int)<(x.clauses.length:Int):=by omega
        have p1:=cl1 HX.out.hp;have q1:=cl1 HX.out.hq;generalize x.clauses[i]=z at r3 r4;clear R3 R4 f2 f5;have ka0:wr.cell? ⟨g3,o3+i*7,none⟩=.some (.bool z.permit):=r3.out 0 _ rfl;have ka1:wr.cell? ⟨g3,o3+i*7+1,none⟩=.some (.string (str z.list)):=r3.out 1 _ rfl;obtain⟨-,-,ka2,ka3,ka4,ka5,ka6⟩:=rw7 r3.out;have kb0:wr.cell? ⟨g4,o4+i*7,none⟩=.some (.bool z.permit):=r4.out 0 _ rfl;have kb1:wr.cell? ⟨g4,o4+i*7+1,none⟩=.some (.string (str z.list)):=r4.out 1 _ rfl;obtain⟨-,-,kb2,kb3,kb4,kb5,kb6⟩:=rw7 r4.out;go_wp2_with fail;go_still (by kernel_rfl);go_wp2;go_roundg (x.clauses.length - (i+1));case measure=>omega
        case rel=>exact⟨i+1,by omega,by go_num,hid (HX.out.keep (zCu wr))⟩
       case neg=>
        have hiz:¬((i:Int)<(x.clauses.length:Int)):=by omega
        have p1:=cl1 HX.out.hp;go_wp2;go_roundg (a.maps.length - (j+1));case measure=>omega
        case rel=>exact⟨j+1,by omega,by go_num,hid HX.out.sm⟩
    case neg=>
     have hjz:¬((j:Int)<(a.maps.length:Int)):=by omega
     have k5:wr.cell? ⟨w.heap.size,4,none⟩=.some (.slice A4 a.maps.length c4):=by rw[←EA4.out];exact H.out.ha.cell 4
     generalize wr=w91 at H k5⊢;go_wp2_with fail;clear k5 hjz hjl hj;go_loopg [13] a.acls.length (fun gh ix wr=>∃j:Nat,j+gh=a.acls.length∧ix=.int .i64 j∧Hid (SM a b w.heap.size (w.heap.size+1) w wr));case atStart=>exact⟨0,by omega,rfl,H⟩
     case round=>
      clear H;obtain⟨j,hj,rfl,H⟩:=hrel;by_cases hjl:j<a.acls.length;case pos=>
       have hjb:j<b.acls.length:=by rw[HL5.out];exact hjl
       have hjz:(j:Int)<(a.acls.length:Int):=by omega
       obtain⟨g1,o1,g2,o2,Ax,cx,Ay,cy,rfl,rfl,N1,N2,k1,k2,k3,k4,lb1,lb2⟩:=pair_rows (name:=fun x:AList=>x.name) (sub:=fun x=>x.rules) (val:=fun x=>x.v) (fun _=>rfl) (EA5.out ▸ HU5.out) (EB5.out ▸ HV5.out) NU5.out NV5.out hjl hjb (same_acls HP.out hjl hjb) H.out.bel;have lb3:w.heap.size<wr.heap.size:=zAy H.out.ha;have lb4:w.heap.size+1<wr.heap.size:=zAy H.out.hb;have k5:wr.cell? ⟨w.heap.size,5,none⟩=.some (.slice (some ⟨g1,o1,none⟩) a.acls.length c5):=by rw[←EA5.out];exact H.out.ha.cell 5
       have k6:wr.cell? ⟨w.heap.size+1,5,none⟩=.some (.slice (some ⟨g2,o2,none⟩) a.acls.length d5):=by rw[←EB5.out];exact H.out.hb.cell 5
       generalize a.acls[j]=x at N1 N2 k1 k2 k3 k4;go_upto_region 28 with(fail)
       go_cut [14,15] (fun x0 y0 wx=>∃p q:Nat,x0=.pointer (some ⟨p,0,none⟩)∧y0=.pointer (some ⟨q,0,none⟩)∧SX a b w.heap.size (w.heap.size+1) p q 87 #[.string (str x.name),.slice Ax x.rules.length cx] #[.string (str x.name),.slice Ay x.rules.length cy] w wx)
       case first=>
        have k1d:wr.drew.cell? ⟨g1,o1+j*2,none⟩=.some (.string (str x.name)):=k1;have k2d:wr.drew.cell? ⟨g1,o1+j*2+1,none⟩=.some (.slice Ax x.rules.length cx):=k2;have k3d:wr.drew.cell? ⟨g2,o2+j*2,none⟩=.some (.string (str x.name)):=k3;have k4d:wr.drew.cell? ⟨g2,o2+j*2+1,none⟩=.some (.slice Ay x.rules.length cy):=k4;have k5d:wr.drew.cell? ⟨w.heap.size,5,none⟩=.some (.slice (some ⟨g1,o1,none⟩) a.acls.length c5):=k5;have k6d:wr.drew.cell? ⟨w.heap.size+1,5,none⟩=.some (.slice (some ⟨g2,o2,none⟩) a.acls.length d5):=k6;go_region_held3 (fun w' => w'.cell? ⟨g1,o1+j*2,none⟩=.some (.string (str x.name))∧w'.cell? ⟨g1,o1+j*2+1,none⟩=.some (.slice Ax x.rules.length cx)∧w'.cell? ⟨g2,o2+j*2,none⟩=.some (.string (str x.name))∧w'.cell? ⟨g2,o2+j*2+1,none⟩=.some (.slice Ay x.rules.length cy)∧w'.cell? ⟨w.heap.size,5,none⟩=.some (.slice (some ⟨g1,o1,none⟩) a.acls.length c5)∧w'.cell? ⟨w.heap.size+1,5,none⟩=.some (.slice (some ⟨g2,o2,none⟩) a.acls.length d5)) (first|(with_reducible exact⟨k1d,k2d,k3d,k4d,k5d,k6d⟩)|go_keep|(refine⟨?_,?_,?_,?_,?_,?_⟩<;>((repeat first|rw[World.cell?_setCell_other _ _ _ _ (by intro h;simp only[Addr.mk.injEq]at h;omega)]|rw[World.cell?_alloc_lt _ _ _ (by first|assumption|(simp;omega))]);assumption))) (fail)
        all_goals
         go_wp2;go_meet
         first|exact⟨wr.heap.size,wr.heap.size+1,rfl,rfl,sx_two H.out _ _ _⟩|exact⟨wr.heap.size+1,wr.heap.size,rfl,rfl,sx_two' H.out _ _ _⟩
       case rest=>
        obtain⟨p,q,rfl,rfl,hx⟩:=hcut;have HX:=hid hx;clear hx k1 k2 k3 k4 k5 k6 lb1 lb2 lb3 lb4;have p0:wc.cell? ⟨p,0,none⟩=.some (.string (str x.name)):=HX.out.hp.cell 0;have p1:=cl1 HX.out.hp;have q0:wc.cell? ⟨q,0,none⟩=.some (.string (str x.name)):=HX.out.hq.cell 0;have q1:=cl1 HX.out.hq;have hlx:x.rules.length≤9223372036854775807:=by have:=N1.out.len;simp only[maxLen]at this;exact this
        have hla:a.acls.length≤9223372036854775807:=by have:=HU5.out.len;simp only[maxLen]at this;exact this
        go_wp2_with fail;clear p0 p1 q0 q1 H;go_loopg [16] x.rules.length (fun gh ix wr=>∃i:Nat,i+gh=x.rules.length∧ix=.int .i64 i∧Hid (SX a b w.heap.size (w.heap.size+1) p q 87 #[.string (str x.name),.slice Ax x.rules.length cx] #[.string (str x.name),.slice Ay x.rules.length cy] w wr));case atStart=>exact⟨0,by omega,rfl,HX⟩
        case round=>
         clear HX;obtain⟨i,hi,rfl,HX⟩:=hrel;by_cases hil:i<x.rules.length;case pos=>
          obtain⟨g3,o3,d3,e3,-,hg3,R3⟩:=N1.out.elem (n:=10) (by decide) (fun _=>rfl) hil;obtain⟨g4,o4,d4,e4,-,hg4,R4⟩:=N2.out.elem (n:=10) (by decide) (fun _=>rfl) hil;injection e3 with f1 f2 f3
          injection e4 with f4 f5 f6
          subst f1 f3 f4 f6;have r3:=hid (zAe R3 HX.out.sm.bel hg3);have r4:=hid (zAe R4 HX.out.sm.bel hg4);have hiz:(i:Int)<(x.rules.length:Int):=by omega
          have p1:=cl1 HX.out.hp;have q1:=cl1 HX.out.hq;generalize x.rules[i]=z at r3 r4;clear R3 R4 f2 f5;obtain⟨ka0,ka1,ka2,ka3,ka4,ka5,ka6,ka7,ka8,ka9⟩:=rw10 r3.out;obtain⟨kb0,kb1,kb2,kb3,kb4,kb5,kb6,kb7,kb8,kb9⟩:=rw10 r4.out;go_wp2_with fail;go_still (by kernel_rfl);go_wp2;go_roundg (x.rules.length - (i+1));case measure=>omega
          case rel=>exact⟨i+1,by omega,by go_num,hid (HX.out.keep (zCu wr))⟩
         case neg=>
          have hiz:¬((i:Int)<(x.rules.length:Int)):=by omega
          have p1:=cl1 HX.out.hp;go_wp2;go_roundg (a.acls.length - (j+1));case measure=>omega
          case rel=>exact⟨j+1,by omega,by go_num,hid HX.out.sm⟩
      case neg=>
       have hjz:¬((j:Int)<(a.acls.length:Int)):=by omega
       have k5:wr.cell? ⟨w.heap.size,5,none⟩=.some (.slice A5 a.acls.length c5):=by rw[←EA5.out];exact H.out.ha.cell 5
       go_wp2;go_ret;exact⟨rfl,H.out.bel⟩
theorem zMy(a b:Rt)(w:World)(B:Nat)(hat:a.at w B)(hbt:b.at w B)(hB:B≤w.heap.size)(hp:a.plain=b.plain) :
  Calls Tryz.prog 25 #[.agg a.C,.agg b.C] w fun e w' => e=.returned (.bool true)∧Below w.heap.size w w' := by
 have hal:=hat.lift hB;have hbl:=hbt.lift hB;have HP:=hid hp;have H0:=hid (SM.start a b w);have EF8:Hid (b.lsOn=a.lsOn):=hid (congrArg Rt.lsOn hp).symm;have EF9:Hid (b.lsAdmin=a.lsAdmin):=hid (congrArg Rt.lsAdmin hp).symm;have EF10:Hid (b.ranges=a.ranges):=hid (congrArg Rt.ranges hp).symm;have HU10:=hid hal.hranges;have HV10:Hid (SlV w w.heap.size 3 AR.C b.rangesV a.ranges):=hid (by rw[←EF10.out];exact hbl.hranges);obtain⟨A10,c10,ea10,-⟩:=HU10.out;obtain⟨D10,d10,eb10,-⟩:=HV10.out;have EA10:=hid ea10;have EB10:=hid eb10;clear ea10 eb10;have EF11:Hid (b.lsRed=a.lsRed):=hid (congrArg Rt.lsRed hp).symm;have HU11:=hid hal.hlsRed;have HV11:Hid (SlV w w.heap.size 5 Rd.C b.lsRedV a.lsRed):=hid (by rw[←EF11.out];exact hbl.hlsRed);obtain⟨A11,c11,ea11,-⟩:=HU11.out;obtain⟨D11,d11,eb11,-⟩:=HV11.out;have EA11:=hid ea11;have EB11:=hid eb11;clear ea11 eb11;have EF12:Hid (b.dvOn=a.dvOn):=hid (congrArg Rt.dvOn hp).symm;have EF13:Hid (b.dvAdmin=a.dvAdmin):=hid (congrArg Rt.dvAdmin hp).symm;have EF14:Hid (b.dvIn=a.dvIn):=hid (congrArg Rt.dvIn hp).symm;have EF15:Hid (b.dvOut=a.dvOut):=hid (congrArg Rt.dvOut hp).symm;have EF16:Hid (b.dvRed=a.dvRed):=hid (congrArg Rt.dvRed hp).symm;have HU16:=hid hal.hdvRed;have HV16:Hid (SlV w w.heap.size 5 Rd.C b.dvRedV a.dvRed):=hid (by rw[←EF16.out];exact hbl.hdvRed);obtain⟨A16,c16,ea16,-⟩:=HU16.out;obtain⟨D16,d16,eb16,-⟩:=HV16.out;have EA16:=hid ea16;have EB16:=hid eb16;clear ea16 eb16;have EF17:Hid (b.pvOn=a.pvOn):=hid (congrArg Rt.pvOn hp).symm;have EF18:Hid (b.ext=a.ext):=hid (congrArg Rt.ext hp).symm;have EF19:Hid (b.int=a.int):=hid (congrArg Rt.int hp).symm;have EF20:Hid (b.nb=a.nb):=hid (congrArg Rt.nb hp).symm;have HU20:=hid hal.hnb;have HV20:Hid (SlV w w.heap.size 4 Nb.C b.nbV a.nb):=hid (by rw[←EF20.out];exact hbl.hnb);obtain⟨A20,c20,ea20,-⟩:=HU20.out;obtain⟨D20,d20,eb20,-⟩:=HV20.out;have EA20:=hid ea20;have EB20:=hid eb20;clear ea20 eb20;have EF21:Hid (b.net=a.net):=hid (congrArg Rt.net hp).symm;have HU21:=hid hal.hnet;have HV21:Hid (SlV w w.heap.size 2 Pf.C b.netV a.net):=hid (by rw[←EF21.out];exact hbl.hnet);obtain⟨A21,c21,ea21,-⟩:=HU21.out;obtain⟨D21,d21,eb21,-⟩:=HV21.out;have EA21:=hid ea21;have EB21:=hid eb21;clear ea21 eb21;have EF22:Hid (b.ag=a.ag):=hid (congrArg Rt.ag hp).symm;have HU22:=hid hal.hag;have HV22:Hid (SlV w w.heap.size 3 Ag.C b.agV a.ag):=hid (by rw[←EF22.out];exact hbl.hag);obtain⟨A22,c22,ea22,-⟩:=HU22.out;obtain⟨D22,d22,eb22,-⟩:=HV22.out;have EA22:=hid ea22;have EB22:=hid eb22;clear ea22 eb22;have EF23:Hid (b.cd=a.cd):=hid (congrArg Rt.cd hp).symm;have HU23:=hid hal.hcd;have HV23:Hid (SlV w w.heap.size 5 Cd.C b.cdV a.cd):=hid (by rw[←EF23.out];exact hbl.hcd);obtain⟨A23,c23,ea23,-⟩:=HU23.out;obtain⟨D23,d23,eb23,-⟩:=HV23.out;have EA23:=hid ea23;have EB23:=hid eb23;clear ea23 eb23;have EF24:Hid (b.pvRed=a.pvRed):=hid (congrArg Rt.pvRed hp).symm;have HU24:=hid hal.hpvRed;have HV24:Hid (SlV w w.heap.size 5 Rd.C b.pvRedV a.pvRed):=hid (by rw[←EF24.out];exact hbl.hpvRed);obtain⟨A24,c24,ea24,-⟩:=HU24.out;obtain⟨D24,d24,eb24,-⟩:=HV24.out;have EA24:=hid ea24;have EB24:=hid eb24;clear ea24 eb24;have ca8:=cl8 H0.out.ha;have cb8:((w.alloc (.cells a.C 41)).alloc (.cells b.C 41)).cell? ⟨w.heap.size+1,8,none⟩=.some (.bool a.lsOn):=by rw[←EF8.out];exact H0.out.hb.cell 8
 have ca9:=cl9 H0.out.ha;have cb9:((w.alloc (.cells a.C 41)).alloc (.cells b.C 41)).cell? ⟨w.heap.size+1,9,none⟩=.some (.int .i64 a.lsAdmin):=by rw[←EF9.out];exact H0.out.hb.cell 9
 have ca10:((w.alloc (.cells a.C 41)).alloc (.cells b.C 41)).cell? ⟨w.heap.size,10,none⟩=.some (.slice A10 a.ranges.length c10):=by rw[←EA10.out];exact H0.out.ha.cell 10
 have cb10:((w.alloc (.cells a.C 41)).alloc (.cells b.C 41)).cell? ⟨w.heap.size+1,10,none⟩=.some (.slice D10 a.ranges.length d10):=by rw[←EB10.out];exact H0.out.hb.cell 10
 have ca11:((w.alloc (.cells a.C 41)).alloc (.cells b.C 41)).cell? ⟨w.heap.size,11,none⟩=.some (.slice A11 a.lsRed.length c11):=by rw[←EA11.out];exact H0.out.ha.cell 11
 have cb11:((w.alloc (.cells a.C 41)).alloc (.cells b.C 41)).cell? ⟨w.heap.size+1,11,none⟩=.some (.slice D11 a.lsRed.length d11):=by rw[←EB11.out];exact H0.out.hb.cell 11
 have HRL:=hid (fun(W:World) (hW:SM a b w.heap.size (w.heap.size+1) w W)=>zHx a.lsRedV b.lsRedV a.lsRed W w.heap.size (HU11.out.below hW.bel) (HV11.out.below hW.bel) hW.bel.size);have HRD:=hid (fun(W:World) (hW:SM a b w.heap.size (w.heap.size+1) w W)=>zHx a.dvRedV b.dvRedV a.dvRed W w.heap.size (HU16.out.below hW.bel) (HV16.out.below hW.bel) hW.bel.size);have HRP:=hid (fun(W:World) (hW:SM a b w.heap.size (w.heap.size+1) w W)=>zHx a.pvRedV b.pvRedV a.pvRed W w.heap.size (HU24.out.below hW.bel) (HV24.out.below hW.bel) hW.bel.size);rw[EA11.out,EB11.out]at HRL;rw[EA16.out,EB16.out]at HRD;rw[EA24.out,EB24.out]at HRP;clear hal hbl hat hbt hp;go_enter Tryz.func25,Tryz.ntmps25;go_wp2_with fail;refine(HRL.out _ H0.out).mono ?_;rintro e w3 ⟨rfl,hb3⟩;have H3:=hid (H0.out.keep hb3);clear hb3 H0 ca8 cb8 ca9 cb9 ca10 cb10 ca11 cb11;go_wp2;go_loopg [5] a.ranges.length (fun gh ix wr=>∃i:Nat,i+gh=a.ranges.length∧ix=.int .i64 i∧Hid (SM a b w.heap.size (w.heap.size+1) w wr));case atStart=>exact⟨0,by omega,rfl,H3⟩
 case round=>
  clear H3;obtain⟨i,hi,rfl,H⟩:=hrel;have hlx:a.ranges.length≤9223372036854775807:=by have:=HU10.out.len;simp only[maxLen]at this;exact this
  by_cases hil:i<a.ranges.length;case pos=>
   obtain⟨g3,o3,x3,e3,-,hg3,R3⟩:=HU10.out.elem (n:=3) (by decide) (fun _=>rfl) hil;obtain⟨g4,o4,x4,e4,-,hg4,R4⟩:=HV10.out.elem (n:=3) (by decide) (fun _=>rfl) hil;rw[EA10.out]at e3;rw[EB10.out]at e4;injection e3 with f1 f2 f3
   injection e4 with f4 f5 f6
   subst f1 f3 f4 f6;have r3:=hid (zAe R3 H.out.bel hg3);have r4:=hid (zAe R4 H.out.bel hg4);have hiz:(i:Int)<(a.ranges.length:Int):=by omega
   have ca10:wr.cell? ⟨w.heap.size,10,none⟩=.some (.slice (some ⟨g3,o3,none⟩) a.ranges.length c10):=by rw[←EA10.out];exact H.out.ha.cell 10
   have cb10:wr.cell? ⟨w.heap.size+1,10,none⟩=.some (.slice (some ⟨g4,o4,none⟩) a.ranges.length d10):=by rw[←EB10.out];exact H.out.hb.cell 10
   generalize a.ranges[i]=z at r3 r4;clear R3 R4 f2 f5;obtain⟨ka0,ka1,ka2⟩:=rw3 r3.out;obtain⟨kb0,kb1,kb2⟩:=rw3 r4.out;go_wp2_with fail;go_still (by kernel_rfl);go_wp2;go_roundg (a.ranges.length - (i+1));case measure=>omega
   case rel=>exact⟨i+1,by omega,by go_num,hid (H.out.keep (zCu wr))⟩
  case neg=>
   have hiz:¬((i:Int)<(a.ranges.length:Int)):=by omega
   clear hlx;have ca12:wr.cell? ⟨w.heap.size,12,none⟩=.some (.bool a.dvOn):=H.out.ha.cell 12;have cb12:wr.cell? ⟨w.heap.size+1,12,none⟩=.some (.bool a.dvOn):=by rw[←EF12.out];exact H.out.hb.cell 12
   have ca13:wr.cell? ⟨w.heap.size,13,none⟩=.some (.int .i64 a.dvAdmin):=H.out.ha.cell 13;have cb13:wr.cell? ⟨w.heap.size+1,13,none⟩=.some (.int .i64 a.dvAdmin):=by rw[←EF13.out];exact H.out.hb.cell 13
   have ca14:wr.cell? ⟨w.heap.size,14,none⟩=.some (.string (str a.dvIn)):=H.out.ha.cell 14;have cb14:wr.cell? ⟨w.heap.size+1,14,none⟩=.some (.string (str a.dvIn)):=by rw[←EF14.out];exact H.out.hb.cell 14
   have ca15:wr.cell? ⟨w.heap.size,15,none⟩=.some (.string (str a.dvOut)):=H.out.ha.cell 15;have cb15:wr.cell? ⟨w.heap.size+1,15,none⟩=.some (.string (str a.dvOut)):=by rw[←EF15.out];exact H.out.hb.cell 15
   have ca16:wr.cell? ⟨w.heap.size,16,none⟩=.some (.slice A16 a.dvRed.length c16):=by rw[←EA16.out];exact H.out.ha.cell 16
   have cb16:wr.cell? ⟨w.heap.size+1,16,none⟩=.some (.slice D16 a.dvRed.length d16):=by rw[←EB16.out];exact H.out.hb.cell 16
   have ca10:wr.cell? ⟨w.heap.size,10,none⟩=.some (.slice A10 a.ranges.length c10):=by rw[←EA10.out];exact H.out.ha.cell 10
   have cb10:wr.cell? ⟨w.heap.size+1,10,none⟩=.some (.slice D10 a.ranges.length d10):=by rw[←EB10.out];exact H.out.hb.cell 10
   go_wp2_with fail;refine(HRD.out _ H.out).mono ?_;rintro e w4 ⟨rfl,hb4⟩;have H4:=hid (H.out.keep hb4);clear ca10 cb10 ca12 cb12 ca13 cb13 ca14 cb14 ca15 cb15 ca16 cb16 hb4 H;go_upto_region 10 with(fail)
   go_cut [6,7] (fun x0 y0 wx=>∃p q:Nat,x0=.pointer (some ⟨p,0,none⟩)∧y0=.pointer (some ⟨q,0,none⟩)∧SX a b w.heap.size (w.heap.size+1) p q 39 #[.bool a.pvOn,.int .i64 a.ext,.int .i64 a.int,.slice A20 a.nb.length c20,.slice A21 a.net.length c21,.slice A22 a.ag.length c22,.slice A23 a.cd.length c23,.slice A24 a.pvRed.length c24] #[.bool a.pvOn,.int .i64 a.ext,.int .i64 a.int,.slice D20 a.nb.length d20,.slice D21 a.net.length d21,.slice D22 a.ag.length d22,.slice D23 a.cd.length d23,.slice D24 a.pvRed.length d24] w wx)
   case first=>
    have lb3:w.heap.size<w4.heap.size:=zAy H4.out.ha;have lb4:w.heap.size+1<w4.heap.size:=zAy H4.out.hb;have ca17:w4.cell? ⟨w.heap.size,17,none⟩=.some (.bool a.pvOn):=H4.out.ha.cell 17;have cb17:w4.cell? ⟨w.heap.size+1,17,none⟩=.some (.bool a.pvOn):=by rw[←EF17.out];exact H4.out.hb.cell 17
    have ca18:w4.cell? ⟨w.heap.size,18,none⟩=.some (.int .i64 a.ext):=H4.out.ha.cell 18;have cb18:w4.cell? ⟨w.heap.size+1,18,none⟩=.some (.int .i64 a.ext):=by rw[←EF18.out];exact H4.out.hb.cell 18
    have ca19:w4.cell? ⟨w.heap.size,19,none⟩=.some (.int .i64 a.int):=H4.out.ha.cell 19;have cb19:w4.cell? ⟨w.heap.size+1,19,none⟩=.some (.int .i64 a.int):=by rw[←EF19.out];exact H4.out.hb.cell 19
    have ca20:w4.cell? ⟨w.heap.size,20,none⟩=.some (.slice A20 a.nb.length c20):=by rw[←EA20.out];exact H4.out.ha.cell 20
    have cb20:w4.cell? ⟨w.heap.size+1,20,none⟩=.some (.slice D20 a.nb.length d20):=by rw[←EB20.out];exact H4.out.hb.cell 20
    have ca21:w4.cell? ⟨w.heap.size,21,none⟩=.some (.slice A21 a.net.length c21):=by rw[←EA21.out];exact H4.out.ha.cell 21
    have cb21:w4.cell? ⟨w.heap.size+1,21,none⟩=.some (.slice D21 a.net.length d21):=by rw[←EB21.out];exact H4.out.hb.cell 21
    have ca22:w4.cell? ⟨w.heap.size,22,none⟩=.some (.slice A22 a.ag.length c22):=by rw[←EA22.out];exact H4.out.ha.cell 22
    have cb22:w4.cell? ⟨w.heap.size+1,22,none⟩=.some (.slice D22 a.ag.length d22):=by rw[←EB22.out];exact H4.out.hb.cell 22
    have ca23:w4.cell? ⟨w.heap.size,23,none⟩=.some (.slice A23 a.cd.length c23):=by rw[←EA23.out];exact H4.out.ha.cell 23
    have cb23:w4.cell? ⟨w.heap.size+1,23,none⟩=.some (.slice D23 a.cd.length d23):=by rw[←EB23.out];exact H4.out.hb.cell 23
    have ca24:w4.cell? ⟨w.heap.size,24,none⟩=.some (.slice A24 a.pvRed.length c24):=by rw[←EA24.out];exact H4.out.ha.cell 24
    have cb24:w4.cell? ⟨w.heap.size+1,24,none⟩=.some (.slice D24 a.pvRed.length d24):=by rw[←EB24.out];exact H4.out.hb.cell 24
    have da17:=ca17;have db17:=cb17;have da18:=ca18;have db18:=cb18;have da19:=ca19;have db19:=cb19;have da20:=ca20;have db20:=cb20;have da21:=ca21;have db21:=cb21;have da22:=ca22;have db22:=cb22;have da23:=ca23;have db23:=cb23;have da24:=ca24;have db24:=cb24;change w4.drew.cell? _=_ at da17 db17;change w4.drew.cell? _=_ at da18 db18;change w4.drew.cell? _=_ at da19 db19;change w4.drew.cell? _=_ at da20 db20;change w4.drew.cell? _=_ at da21 db21;change w4.drew.cell? _=_ at da22 db22;change w4.drew.cell? _=_ at da23 db23;change w4.drew.cell? _=_ at da24 db24;go_region_held3 (fun w' => w'.cell? ⟨w.heap.size,17,none⟩=.some (.bool a.pvOn)∧w'.cell? ⟨w.heap.size,18,none⟩=.some (.int .i64 a.ext)∧w'.cell? ⟨w.heap.size,19,none⟩=.some (.int .i64 a.int)∧w'.cell? ⟨w.heap.size,20,none⟩=.some (.slice A20 a.nb.length c20)∧w'.cell? ⟨w.heap.size,21,none⟩=.some (.slice A21 a.net.length c21)∧w'.cell? ⟨w.heap.size,22,none⟩=.some (.slice A22 a.ag.length c22)∧w'.cell? ⟨w.heap.size,23,none⟩=.some (.slice A23 a.cd.length c23)∧w'.cell? ⟨w.heap.size,24,none⟩=.some (.slice A24 a.pvRed.length c24)∧w'.cell? ⟨w.heap.size+1,17,none⟩=.some (.bool a.pvOn)∧w'.cell? ⟨w.heap.size+1,18,none⟩=.some (.int .i64 a.ext)∧w'.cell? ⟨w.heap.size+1,19,none⟩=.some (.int .i64 a.int)∧w'.cell? ⟨w.heap.size+1,20,none⟩=.some (.slice D20 a.nb.length d20)∧w'.cell? ⟨w.heap.size+1,21,none⟩=.some (.slice D21 a.net.length d21)∧w'.cell? ⟨w.heap.size+1,22,none⟩=.some (.slice D22 a.ag.length d22)∧w'.cell? ⟨w.heap.size+1,23,none⟩=.some (.slice D23 a.cd.length d23)∧w'.cell? ⟨w.heap.size+1,24,none⟩=.some (.slice D24 a.pvRed.length d24)) (first|(with_reducible exact⟨da17,da18,da19,da20,da21,da22,da23,da24,db17,db18,db19,db20,db21,db22,db23,db24⟩)|go_keep) (fail)
    all_goals
     go_wp2;go_meet
     first|exact⟨w4.heap.size,w4.heap.size+1,rfl,rfl,sx_two H4.out _ _ _⟩|exact⟨w4.heap.size+1,w4.heap.size,rfl,rfl,sx_two' H4.out _ _ _⟩
   case rest=>
    obtain⟨p,q,rfl,rfl,hx⟩:=hcut;have HX:=hid hx;clear hx H4;obtain⟨p17,p18,p19,p20,p21,p22,p23,p24⟩:=bl8 HX.out.hp;obtain⟨q17,q18,q19,q20,q21,q22,q23,q24⟩:=bl8 HX.out.hq;go_wp2_with fail;refine(HRP.out _ HX.out.sm).mono ?_;rintro e w5 ⟨rfl,hb5⟩;have H5:=hid (HX.out.keep hb5);clear hb5 HX p17 q17 p18 q18 p19 q19 p20 q20 p21 q21 p22 q22 p23 q23 p24 q24;go_wp2;go_loopg [8] a.nb.length (fun gh ix wr=>∃i:Nat,i+gh=a.nb.length∧ix=.int .i64 i∧Hid (SX a b w.heap.size (w.heap.size+1) p q 39 #[.bool a.pvOn,.int .i64 a.ext,.int .i64 a.int,.slice A20 a.nb.length c20,.slice A21 a.net.length c21,.slice A22 a.ag.length c22,.slice A23 a.cd.length c23,.slice A24 a.pvRed.length c24] #[.bool a.pvOn,.int .i64 a.ext,.int .i64 a.int,.slice D20 a.nb.length d20,.slice D21 a.net.length d21,.slice D22 a.ag.length d22,.slice D23 a.cd.length d23,.slice D24 a.pvRed.length d24] w wr));case atStart=>exact⟨0,by omega,rfl,H5⟩
    case round=>
     clear H5;obtain⟨i,hi,rfl,H⟩:=hrel;have hlx:a.nb.length≤9223372036854775807:=by have:=HU20.out.len;simp only[maxLen]at this;exact this
     by_cases hil:i<a.nb.length;case pos=>
      obtain⟨g3,o3,x3,e3,-,hg3,R3⟩:=HU20.out.elem (n:=4) (by decide) (fun _=>rfl) hil;obtain⟨g4,o4,x4,e4,-,hg4,R4⟩:=HV20.out.elem (n:=4) (by decide) (fun _=>rfl) hil;rw[EA20.out]at e3;rw[EB20.out]at e4;injection e3 with f1 f2 f3
      injection e4 with f4 f5 f6
      subst f1 f3 f4 f6;have r3:=hid (zAe R3 H.out.sm.bel hg3);have r4:=hid (zAe R4 H.out.sm.bel hg4);have hiz:(i:Int)<(a.nb.length:Int):=by omega
      have p20:=cl3 H.out.hp;have q20:=cl3 H.out.hq;generalize a.nb[i]=z at r3 r4;clear R3 R4 f2 f5;obtain⟨ka0,ka1⟩:=rw2 r3.out;have ka2:wr.cell? ⟨g3,o3+i*4+2,none⟩=.some (.string (str z.inn)):=r3.out 2 _ rfl;have ka3:wr.cell? ⟨g3,o3+i*4+3,none⟩=.some (.string (str z.out)):=r3.out 3 _ rfl;obtain⟨kb0,kb1⟩:=rw2 r4.out;have kb2:wr.cell? ⟨g4,o4+i*4+2,none⟩=.some (.string (str z.inn)):=r4.out 2 _ rfl;have kb3:wr.cell? ⟨g4,o4+i*4+3,none⟩=.some (.string (str z.out)):=r4.out 3 _ rfl;go_wp2_with fail;go_still (by kernel_rfl);go_wp2;go_roundg (a.nb.length - (i+1));case measure=>omega
      case rel=>exact⟨i+1,by omega,by go_num,hid (H.out.keep (zCu wr))⟩
     case neg=>
      have hiz:¬((i:Int)<(a.nb.length:Int)):=by omega
      clear hlx;have p20:=cl3 H.out.hp;go_wp2_with fail;clear p20 hiz hil hi;generalize wr=wv20 at H⊢;go_loopg [9] a.net.length (fun gh ix wr=>∃i:Nat,i+gh=a.net.length∧ix=.int .i64 i∧Hid (SX a b w.heap.size (w.heap.size+1) p q 39 #[.bool a.pvOn,.int .i64 a.ext,.int .i64 a.int,.slice A20 a.nb.length c20,.slice A21 a.net.length c21,.slice A22 a.ag.length c22,.slice A23 a.cd.length c23,.slice A24 a.pvRed.length c24] #[.bool a.pvOn,.int .i64 a.ext,.int .i64 a.int,.slice D20 a.nb.length d20,.slice D21 a.net.length d21,.slice D22 a.ag.length d22,.slice D23 a.cd.length d23,.slice D24 a.pvRed.length d24] w wr));case atStart=>exact⟨0,by omega,rfl,H⟩
      case round=>
       clear H;obtain⟨i,hi,rfl,H⟩:=hrel;have hlx:a.net.length≤9223372036854775807:=by have:=HU21.out.len;simp only[maxLen]at this;exact this
       by_cases hil:i<a.net.length;case pos=>
        obtain⟨g3,o3,x3,e3,-,hg3,R3⟩:=HU21.out.elem (n:=2) (by decide) (fun _=>rfl) hil;obtain⟨g4,o4,x4,e4,-,hg4,R4⟩:=HV21.out.elem (n:=2) (by decide) (fun _=>rfl) hil;rw[EA21.out]at e3;rw[EB21.out]at e4;injection e3 with f1 f2 f3
        injection e4 with f4 f5 f6
        subst f1 f3 f4 f6;have r3:=hid (zAe R3 H.out.sm.bel hg3);have r4:=hid (zAe R4 H.out.sm.bel hg4);have hiz:(i:Int)<(a.net.length:Int):=by omega
        have p21:=cl4 H.out.hp;have q21:=cl4 H.out.hq;generalize a.net[i]=z at r3 r4;clear R3 R4 f2 f5;obtain⟨ka0,ka1⟩:=rw2 r3.out;obtain⟨kb0,kb1⟩:=rw2 r4.out;go_wp2_with fail;go_still (by kernel_rfl);go_wp2;go_roundg (a.net.length - (i+1));case measure=>omega
        case rel=>exact⟨i+1,by omega,by go_num,hid (H.out.keep (zCu wr))⟩
       case neg=>
        have hiz:¬((i:Int)<(a.net.length:Int)):=by omega
        clear hlx;have p21:=cl4 H.out.hp;go_wp2_with fail;clear p21 hiz hil hi;generalize wr=wv21 at H⊢;go_loopg [10] a.ag.length (fun gh ix wr=>∃i:Nat,i+gh=a.ag.length∧ix=.int .i64 i∧Hid (SX a b w.heap.size (w.heap.size+1) p q 39 #[.bool a.pvOn,.int .i64 a.ext,.int .i64 a.int,.slice A20 a.nb.length c20,.slice A21 a.net.length c21,.slice A22 a.ag.length c22,.slice A23 a.cd.length c23,.slice A24 a.pvRed.length c24] #[.bool a.pvOn,.int .i64 a.ext,.int .i64 a.int,.slice D20 a.nb.length d20,.slice D21 a.net.length d21,.slice D22 a.ag.length d22,.slice D23 a.cd.length d23,.slice D24 a.pvRed.length d24] w wr));case atStart=>exact⟨0,by omega,rfl,H⟩
        case round=>
         clear H;obtain⟨i,hi,rfl,H⟩:=hrel;have hlx:a.ag.length≤9223372036854775807:=by have:=HU22.out.len;simp only[maxLen]at this;exact this
         by_cases hil:i<a.ag.length;case pos=>
          obtain⟨g3,o3,x3,e3,-,hg3,R3⟩:=HU22.out.elem (n:=3) (by decide) (fun _=>rfl) hil;obtain⟨g4,o4,x4,e4,-,hg4,R4⟩:=HV22.out.elem (n:=3) (by decide) (fun _=>rfl) hil;rw[EA22.out]at e3;rw[EB22.out]at e4;injection e3 with f1 f2 f3
          injection e4 with f4 f5 f6
          subst f1 f3 f4 f6;have r3:=hid (zAe R3 H.out.sm.bel hg3);have r4:=hid (zAe R4 H.out.sm.bel hg4);have hiz:(i:Int)<(a.ag.length:Int):=by omega
          have p22:=cl5 H.out.hp;have q22:=cl5 H.out.hq;generalize a.ag[i]=z at r3 r4;clear R3 R4 f2 f5;obtain⟨ka0,ka1,ka2⟩:=rw3 r3.out;obtain⟨kb0,kb1,kb2⟩:=rw3 r4.out;go_wp2_with fail;go_still (by kernel_rfl);go_wp2;go_roundg (a.ag.length - (i+1));case measure=>omega
          case rel=>exact⟨i+1,by omega,by go_num,hid (H.out.keep (zCu wr))⟩
         case neg=>
          have hiz:¬((i:Int)<(a.ag.length:Int)):=by omega
          clear hlx;have p22:=cl5 H.out.hp;go_wp2_with fail;clear p22 hiz hil hi;generalize wr=wv22 at H⊢;go_loopg [11] a.cd.length (fun gh ix wr=>∃i:Nat,i+gh=a.cd.length∧ix=.int .i64 i∧Hid (SX a b w.heap.size (w.heap.size+1) p q 39 #[.bool a.pvOn,.int .i64 a.ext,.int .i64 a.int,.slice A20 a.nb.length c20,.slice A21 a.net.length c21,.slice A22 a.ag.length c22,.slice A23 a.cd.length c23,.slice A24 a.pvRed.length c24] #[.bool a.pvOn,.int .i64 a.ext,.int .i64 a.int,.slice D20 a.nb.length d20,.slice D21 a.net.length d21,.slice D22 a.ag.length d22,.slice D23 a.cd.length d23,.slice D24 a.pvRed.length d24] w wr));case atStart=>exact⟨0,by omega,rfl,H⟩
          case round=>
           clear H;obtain⟨i,hi,rfl,H⟩:=hrel;have hlx:a.cd.length≤9223372036854775807:=by have:=HU23.out.len;simp only[maxLen]at this;exact this
           by_cases hil:i<a.cd.length;case pos=>
            obtain⟨g3,o3,x3,e3,-,hg3,R3⟩:=HU23.out.elem (n:=5) (by decide) (fun _=>rfl) hil;obtain⟨g4,o4,x4,e4,-,hg4,R4⟩:=HV23.out.elem (n:=5) (by decide) (fun _=>rfl) hil;rw[EA23.out]at e3;rw[EB23.out]at e4;injection e3 with f1 f2 f3
            injection e4 with f4 f5 f6
            subst f1 f3 f4 f6;have r3:=hid (zAe R3 H.out.sm.bel hg3);have r4:=hid (zAe R4 H.out.sm.bel hg4);have hiz:(i:Int)<(a.cd.length:Int):=by omega
            have p23:=cl6 H.out.hp;have q23:=cl6 H.out.hq;generalize a.cd[i]=z at r3 r4;clear R3 R4 f2 f5;obtain⟨ka0,ka1,ka2,ka3,ka4⟩:=rw5 r3.out;obtain⟨kb0,kb1,kb2,kb3,kb4⟩:=rw5 r4.out;go_wp2_with fail;go_still (by kernel_rfl);go_wp2;go_roundg (a.cd.length - (i+1));case measure=>omega
            case rel=>exact⟨i+1,by omega,by go_num,hid (H.out.keep (zCu wr))⟩
           case neg=>
            have hiz:¬((i:Int)<(a.cd.length:Int)):=by omega
            clear hlx;have p23:=cl6 H.out.hp;go_wp2_with fail;clear p23 hiz hil hi;go_ret;exact⟨rfl,H.out.sm.bel⟩
theorem same_any(a b:Rt)(w:World)(B:Nat)(hat:a.at w B)(hbt:b.at w B)(hB:B≤w.heap.size)(hp:a.plain=b.plain) :
  Calls Tryz.prog 11 #[.agg a.C,.agg b.C] w fun e w' => e=.returned (.bool true)∧Below w.heap.size w w' := by
 have hal:=hat.lift hB;have hbl:=hbt.lift hB;have HP:=hid hp;have H0:=hid (SM.start a b w);have EF0:Hid (b.name=a.name):=hid (congrArg Rt.name hp).symm;have EF1:Hid (b.asn=a.asn):=hid (congrArg Rt.asn hp).symm;have EF2:Hid (b.ifs=a.ifs):=hid (congrArg Rt.ifs hp).symm;have HU2:=hid hal.hifs;have HV2:Hid (SlV w w.heap.size 12 If.C b.ifsV a.ifs):=hid (by rw[←EF2.out];exact hbl.hifs);obtain⟨A2,c2,ea2,-⟩:=HU2.out;obtain⟨D2,d2,eb2,-⟩:=HV2.out;have EA2:=hid ea2;have EB2:=hid eb2;clear ea2 eb2;have EF6:Hid (b.nat=a.nat):=hid (congrArg Rt.nat hp).symm;have HU6:=hid hal.hnat;have HV6:Hid (SlV w w.heap.size 9 Tr.C b.natV a.nat):=hid (by rw[←EF6.out];exact hbl.hnat);obtain⟨A6,c6,ea6,-⟩:=HU6.out;obtain⟨D6,d6,eb6,-⟩:=HV6.out;have EA6:=hid ea6;have EB6:=hid eb6;clear ea6 eb6;have EF7:Hid (b.stat=a.stat):=hid (congrArg Rt.stat hp).symm;have HU7:=hid hal.hstat;have HV7:Hid (SlV w w.heap.size 7 Sr.C b.statV a.stat):=hid (by rw[←EF7.out];exact hbl.hstat);obtain⟨A7,c7,ea7,-⟩:=HU7.out;obtain⟨D7,d7,eb7,-⟩:=HV7.out;have EA7:=hid ea7;have EB7:=hid eb7;clear ea7 eb7;have ca0:((w.alloc (.cells a.C 41)).alloc (.cells b.C 41)).cell? ⟨w.heap.size,0,none⟩=.some (.string (str a.name)):=H0.out.ha.cell 0;have cb0:((w.alloc (.cells a.C 41)).alloc (.cells b.C 41)).cell? ⟨w.heap.size+1,0,none⟩=.some (.string (str a.name)):=by rw[←EF0.out];exact H0.out.hb.cell 0
 have ca1:=cl1 H0.out.ha;have cb1:((w.alloc (.cells a.C 41)).alloc (.cells b.C 41)).cell? ⟨w.heap.size+1,1,none⟩=.some (.int .i64 a.asn):=by rw[←EF1.out];exact H0.out.hb.cell 1
 have ca2:((w.alloc (.cells a.C 41)).alloc (.cells b.C 41)).cell? ⟨w.heap.size,2,none⟩=.some (.slice A2 a.ifs.length c2):=by rw[←EA2.out];exact H0.out.ha.cell 2
 have cb2:((w.alloc (.cells a.C 41)).alloc (.cells b.C 41)).cell? ⟨w.heap.size+1,2,none⟩=.some (.slice D2 a.ifs.length d2):=by rw[←EB2.out];exact H0.out.hb.cell 2
 have ca6:((w.alloc (.cells a.C 41)).alloc (.cells b.C 41)).cell? ⟨w.heap.size,6,none⟩=.some (.slice A6 a.nat.length c6):=by rw[←EA6.out];exact H0.out.ha.cell 6
 have cb6:((w.alloc (.cells a.C 41)).alloc (.cells b.C 41)).cell? ⟨w.heap.size+1,6,none⟩=.some (.slice D6 a.nat.length d6):=by rw[←EB6.out];exact H0.out.hb.cell 6
 have ca7:((w.alloc (.cells a.C 41)).alloc (.cells b.C 41)).cell? ⟨w.heap.size,7,none⟩=.some (.slice A7 a.stat.length c7):=by rw[←EA7.out];exact H0.out.ha.cell 7
 have cb7:((w.alloc (.cells a.C 41)).alloc (.cells b.C 41)).cell? ⟨w.heap.size+1,7,none⟩=.some (.slice D7 a.stat.length d7):=by rw[←EB7.out];exact H0.out.hb.cell 7
 have HAL:=hid hal;have HBL:=hid hbl;clear hal hbl hat hbt hp;go_enter Tryz.func11,Tryz.ntmps11;go_upto_region 3 with(fail)
 clear ca0 cb0 ca1 cb1 ca2 cb2 ca6 cb6 ca7 cb7;generalize ((w.alloc (.cells a.C 41)).alloc (.cells b.C 41))=w2 at H0⊢;go_wp2;go_loopg [5] a.ifs.length (fun gh ix wr=>∃i:Nat,i+gh=a.ifs.length∧ix=.int .i64 i∧Hid (SM a b w.heap.size (w.heap.size+1) w wr));case atStart=>exact⟨0,by omega,rfl,H0⟩
 case round=>
  clear H0;obtain⟨i,hi,rfl,H⟩:=hrel;have hlx:a.ifs.length≤9223372036854775807:=by have:=HU2.out.len;simp only[maxLen]at this;exact this
  by_cases hil:i<a.ifs.length;case pos=>
   obtain⟨g3,o3,x3,e3,-,hg3,R3⟩:=HU2.out.elem (n:=12) (by decide) (fun _=>rfl) hil;obtain⟨g4,o4,x4,e4,-,hg4,R4⟩:=HV2.out.elem (n:=12) (by decide) (fun _=>rfl) hil;rw[EA2.out]at e3;rw[EB2.out]at e4;injection e3 with f1 f2 f3
   injection e4 with f4 f5 f6
   subst f1 f3 f4 f6;have r3:=hid (zAe R3 H.out.bel hg3);have r4:=hid (zAe R4 H.out.bel hg4);have hiz:(i:Int)<(a.ifs.length:Int):=by omega
   have ca2:wr.cell? ⟨w.heap.size,2,none⟩=.some (.slice (some ⟨g3,o3,none⟩) a.ifs.length c2):=by rw[←EA2.out];exact H.out.ha.cell 2
   have cb2:wr.cell? ⟨w.heap.size+1,2,none⟩=.some (.slice (some ⟨g4,o4,none⟩) a.ifs.length d2):=by rw[←EB2.out];exact H.out.hb.cell 2
   generalize a.ifs[i]=z at r3 r4;clear R3 R4 f2 f5;have ka0:wr.cell? ⟨g3,o3+i*12,none⟩=.some (.string (str z.name)):=r3.out 0 _ rfl;obtain⟨-,ka1,ka2,ka3,ka4,ka5,ka6,ka7,ka8⟩:=rw9 r3.out;have ka9:wr.cell? ⟨g3,o3+i*12+9,none⟩=.some (.string (str z.inn)):=r3.out 9 _ rfl;have ka10:wr.cell? ⟨g3,o3+i*12+10,none⟩=.some (.string (str z.out)):=r3.out 10 _ rfl;obtain⟨-,-,-,-,-,-,-,-,-,-,-,ka11⟩:=rw12 r3.out;have kb0:wr.cell? ⟨g4,o4+i*12,none⟩=.some (.string (str z.name)):=r4.out 0 _ rfl;obtain⟨-,kb1,kb2,kb3,kb4,kb5,kb6,kb7,kb8⟩:=rw9 r4.out;have kb9:wr.cell? ⟨g4,o4+i*12+9,none⟩=.some (.string (str z.inn)):=r4.out 9 _ rfl;have kb10:wr.cell? ⟨g4,o4+i*12+10,none⟩=.some (.string (str z.out)):=r4.out 10 _ rfl;obtain⟨-,-,-,-,-,-,-,-,-,-,-,kb11⟩:=rw12 r4.out;go_wp2_with fail;go_still (by kernel_rfl);go_wp2;go_roundg (a.ifs.length - (i+1));case measure=>omega
   case rel=>exact⟨i+1,by omega,by go_num,hid (H.out.keep (zCu wr))⟩
  case neg=>
   have hiz:¬((i:Int)<(a.ifs.length:Int)):=by omega
   clear hlx;have ca2:wr.cell? ⟨w.heap.size,2,none⟩=.some (.slice A2 a.ifs.length c2):=by rw[←EA2.out];exact H.out.ha.cell 2
   go_wp2_with fail;clear ca2 hiz hil hi;generalize wr=wv2 at H⊢;go_loopg [6] a.nat.length (fun gh ix wr=>∃i:Nat,i+gh=a.nat.length∧ix=.int .i64 i∧Hid (SM a b w.heap.size (w.heap.size+1) w wr));case atStart=>exact⟨0,by omega,rfl,H⟩
   case round=>
    clear H;obtain⟨i,hi,rfl,H⟩:=hrel;have hlx:a.nat.length≤9223372036854775807:=by have:=HU6.out.len;simp only[maxLen]at this;exact this
    by_cases hil:i<a.nat.length;case pos=>
     obtain⟨g3,o3,x3,e3,-,hg3,R3⟩:=HU6.out.elem (n:=9) (by decide) (fun _=>rfl) hil;obtain⟨g4,o4,x4,e4,-,hg4,R4⟩:=HV6.out.elem (n:=9) (by decide) (fun _=>rfl) hil;rw[EA6.out]at e3;rw[EB6.out]at e4;injection e3 with f1 f2 f3
     injection e4 with f4 f5 f6
     subst f1 f3 f4 f6;have r3:=hid (zAe R3 H.out.bel hg3);have r4:=hid (zAe R4 H.out.bel hg4);have hiz:(i:Int)<(a.nat.length:Int):=by omega
     have ca6:wr.cell? ⟨w.heap.size,6,none⟩=.some (.slice (some ⟨g3,o3,none⟩) a.nat.length c6):=by rw[←EA6.out];exact H.out.ha.cell 6
     have cb6:wr.cell? ⟨w.heap.size+1,6,none⟩=.some (.slice (some ⟨g4,o4,none⟩) a.nat.length d6):=by rw[←EB6.out];exact H.out.hb.cell 6
     generalize a.nat[i]=z at r3 r4;clear R3 R4 f2 f5;obtain⟨ka0,ka1,ka2,ka3,ka4,ka5,-⟩:=rw7 r3.out;have ka6:wr.cell? ⟨g3,o3+i*9+6,none⟩=.some (.string (str z.list)):=r3.out 6 _ rfl;obtain⟨-,-,-,-,-,-,-,ka7,ka8⟩:=rw9 r3.out;obtain⟨kb0,kb1,kb2,kb3,kb4,kb5,-⟩:=rw7 r4.out;have kb6:wr.cell? ⟨g4,o4+i*9+6,none⟩=.some (.string (str z.list)):=r4.out 6 _ rfl;obtain⟨-,-,-,-,-,-,-,kb7,kb8⟩:=rw9 r4.out;go_wp2_with fail;go_still (by kernel_rfl);go_wp2;go_roundg (a.nat.length - (i+1));case measure=>omega
     case rel=>exact⟨i+1,by omega,by go_num,hid (H.out.keep (zCu wr))⟩
    case neg=>
     have hiz:¬((i:Int)<(a.nat.length:Int)):=by omega
     clear hlx;have ca6:wr.cell? ⟨w.heap.size,6,none⟩=.some (.slice A6 a.nat.length c6):=by rw[←EA6.out];exact H.out.ha.cell 6
     go_wp2_with fail;clear ca6 hiz hil hi;generalize wr=wv6 at H⊢;go_loopg [7] a.stat.length (fun gh ix wr=>∃i:Nat,i+gh=a.stat.length∧ix=.int .i64 i∧Hid (SM a b w.heap.size (w.heap.size+1) w wr));case atStart=>exact⟨0,by omega,rfl,H⟩
     case round=>
      clear H;obtain⟨i,hi,rfl,H⟩:=hrel;have hlx:a.stat.length≤9223372036854775807:=by have:=HU7.out.len;simp only[maxLen]at this;exact this
      by_cases hil:i<a.stat.length;case pos=>
       obtain⟨g3,o3,x3,e3,-,hg3,R3⟩:=HU7.out.elem (n:=7) (by decide) (fun _=>rfl) hil;obtain⟨g4,o4,x4,e4,-,hg4,R4⟩:=HV7.out.elem (n:=7) (by decide) (fun _=>rfl) hil;rw[EA7.out]at e3;rw[EB7.out]at e4;injection e3 with f1 f2 f3
       injection e4 with f4 f5 f6
       subst f1 f3 f4 f6;have r3:=hid (zAe R3 H.out.bel hg3);have r4:=hid (zAe R4 H.out.bel hg4);have hiz:(i:Int)<(a.stat.length:Int):=by omega
       have ca7:wr.cell? ⟨w.heap.size,7,none⟩=.some (.slice (some ⟨g3,o3,none⟩) a.stat.length c7):=by rw[←EA7.out];exact H.out.ha.cell 7
       have cb7:wr.cell? ⟨w.heap.size+1,7,none⟩=.some (.slice (some ⟨g4,o4,none⟩) a.stat.length d7):=by rw[←EB7.out];exact H.out.hb.cell 7
       generalize a.stat[i]=z at r3 r4;clear R3 R4 f2 f5;obtain⟨ka0,ka1,ka2⟩:=rw3 r3.out;have ka3:wr.cell? ⟨g3,o3+i*7+3,none⟩=.some (.string (str z.iface)):=r3.out 3 _ rfl;obtain⟨-,-,-,-,ka4,ka5,ka6⟩:=rw7 r3.out;obtain⟨kb0,kb1,kb2⟩:=rw3 r4.out;have kb3:wr.cell? ⟨g4,o4+i*7+3,none⟩=.some (.string (str z.iface)):=r4.out 3 _ rfl;obtain⟨-,-,-,-,kb4,kb5,kb6⟩:=rw7 r4.out;go_wp2_with fail;go_still (by kernel_rfl);go_wp2;go_roundg (a.stat.length - (i+1));case measure=>omega
       case rel=>exact⟨i+1,by omega,by go_num,hid (H.out.keep (zCu wr))⟩
      case neg=>
       have hiz:¬((i:Int)<(a.stat.length:Int)):=by omega
       clear hlx;have ca7:wr.cell? ⟨w.heap.size,7,none⟩=.some (.slice A7 a.stat.length c7):=by rw[←EA7.out];exact H.out.ha.cell 7
       go_upto_region 18 with(fail)
       clear ca7 hiz hil hi;go_wp2_with (first|(refine zAa rfl 41 _ rfl rfl H.out.ha.range Tryz.rowRt Tryz.sizeRt ?_)|(refine zAa rfl 41 _ rfl rfl H.out.hb.range Tryz.rowRt Tryz.sizeRt ?_));refine(sameLists_any a b wr w.heap.size (HAL.out.below H.out.bel) (HBL.out.below H.out.bel) H.out.bel.size HP.out).mono ?_;rintro e w5 ⟨rfl,hb5⟩;have H5:=hid (H.out.keep hb5);clear hb5 H;go_wp2_with (first|(refine zAh (by rfl) (zAa rfl 41 _ rfl rfl H5.out.ha.range Tryz.rowRt Tryz.sizeRt ?_))|(refine zAh (by rfl) (zAa rfl 41 _ rfl rfl H5.out.hb.range Tryz.rowRt Tryz.sizeRt ?_)));refine(zMy a b w5 w.heap.size (HAL.out.below H5.out.bel) (HBL.out.below H5.out.bel) H5.out.bel.size HP.out).mono ?_;rintro e w6 ⟨rfl,hb6⟩;have H6:=hid (H5.out.keep hb6);clear hb6 H5;go_wp2;go_ret;exact⟨rfl,H6.out.bel⟩
end Go.Proofs.YtdlgnhefpoalnaaGreatDoor
