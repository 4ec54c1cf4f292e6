/- Beta's forms as closures: which pointer a form holds; the last element of a slice of the reader as a struct that a form turns; what a form answers. No condition. -/
import Derived.Test.YtdlgnhefpoalnaaGreatDoorLr
set_option maxHeartbeats 4000000
namespace Go.Proofs.YtdlgnhefpoalnaaGreatDoor
open Lib (hid)
open Go.RowKit
theorem cutL_eq(c:UInt8):∀l:List UInt8,Lib.cut l [c]=cutL c l
 |[]=>rfl
 |x :: r=>by
  have ih:=cutL_eq c r
  have hp:([c].isPrefixOf (x :: r))=(c==x):=by
   show(c==x&&true)=_;exact Bool.and_true _
  have hc:(x==c)=(c==x):=BEq.comm;unfold cutL;unfold Lib.cut at ih⊢;unfold Lib.index;rw[hp,hc];cases h:(c==x)with
  |true=>simp
  |false=>
   rw[←ih];by_cases h1:Lib.index r [c] = -1
   ·simp[h1]
   ·have h2:=Lib.index_ge r [c]
    have h3:0≤Lib.index r [c]:=by omega
    have h4:(Lib.index r [c]+1).toNat=(Lib.index r [c]).toNat+1:=by omega
    have h5:(Lib.index r [c] == -1)=false:=by simpa using h1
    simp only[h5,Bool.false_eq_true,if_false,if_pos h3,if_pos (show 0≤Lib.index r [c]+1 by omega),h4,yG,yH];refine Prod.ext ?_ (Prod.ext ?_ rfl)
    ·simp
    ·show List.drop ((Lib.index r [c]).toNat+1+1) (x :: r)=_
     rw[List.drop_succ_cons]
theorem cutL_len(c:UInt8):∀l:List UInt8,(cutL c l).1.length≤l.length∧(cutL c l).2.1.length≤l.length
 |[]=>⟨yI _,yI _⟩
 |x :: r=>by
  have ih:=cutL_len c r;unfold cutL;split
  ·simp
  ·simp only[yG];omega
theorem acut_any(c:UInt8)(l:List UInt8)(w:World)(he:Env w)(hs:l.length≤1000000000):Calls Tryz.prog 280 #[.string (str l),.string ⟨#[c]⟩] w fun e w' =>
  e=.returned (.tuple #[.string (str (cutL c l).1),.string (str (cutL c l).2.1),.bool (cutL c l).2.2])∧Below w.heap.size w w' := by
 obtain⟨⟨m,hm⟩,_⟩:=he;refine(Tryz.strings_Cut (str l) ⟨#[c]⟩ m w (by rw[zBa];omega) hm).mono ?_;rintro e w' ⟨rfl,q,rfl⟩
 have e1:Lib.cut (str l).data.toList (⟨#[c]⟩:ByteArray).data.toList=cutL c l:=by
  rw[←cutL_eq];simp[str]
 rw[e1];exact⟨rfl,zGr w q⟩
theorem num_no(l:List UInt8)(lo hi:Int)(h:numIn l lo hi=none)(w:World):Calls Tryz.prog 245 #[.string (str l),.int .i64 lo,.int .i64 hi] w fun e w' => e=.returned (.tuple #[.int .i64 0,.bool false])∧w=w' :=
 zJz (by rw[zBk];exact h) w
theorem num_yes(l:List UInt8)(lo hi v:Int)(h:numIn l lo hi=some v)(w:World):Calls Tryz.prog 245 #[.string (str l),.int .i64 lo,.int .i64 hi] w fun e w' => e=.returned (.tuple #[.int .i64 v,.bool true])∧w=w' :=
 zJr (by rw[zBk];exact h) w
def PoPost(o:Option (Int × Int))(w:World)(e:Ending)(w' : World):Prop:=e=.returned (.tuple #[.agg #[.int .i64 (o.getD (0,0)).1,.int .i64 (o.getD (0,0)).2],.bool o.isSome])∧Below w.heap.size w w'
def WiPost(o:Option (Nat × Nat))(w:World)(e:Ending)(w' : World):Prop:=e=.returned (.tuple #[.agg #[.int .u32 ((o.getD (0,0)).1:Int),.int .u32 ((o.getD (0,0)).2:Int)],.bool o.isSome])∧Below w.heap.size w w'
theorem parsePorts_any(l:List UInt8)(w:World)(he:Env w)(hs:l.length≤1000000000):Calls Tryz.prog 271 #[.string (str l)] w (PoPost (portA l) w):=by
 have HC:=hid (fun w he=>acut_any 45 l w he hs);have HE:=hid he;clear he;unfold portA;generalize cutL 45 l=z at HC⊢;obtain⟨fr,bk,fd⟩:=z;dsimp only at HC⊢;cases h1:numIn fr 0 65535 with
 |none=>
  have HN:=hid (num_no fr 0 65535 h1);clear h1;go_enter Tryz.func271,Tryz.ntmps271;go_wp2_with fail;refine(HC.out _ (HE.out.below ((Below.refl _ w).alloc (yI _) _))).mono ?_;rintro e w1 ⟨rfl,hb1⟩;obtain⟨hb,hz,c0,c1,f0⟩:=zJm hb1;clear hb1;go_wp2_with fail;refine(HN.out _).mono ?_;rintro e w2 ⟨rfl,rfl⟩;go_wp2_with fail;refine bodyPost_ret (v:=.tuple #[.agg #[.int .i64 0,.int .i64 0],.bool false]) (by simp[results,Tryz.results271,go_sem, *]) rfl ⟨rfl,?_⟩;exact(hb.setCell (yI _) _).setCell (yI _) _
 |some lo=>
  have HN:=hid (num_yes fr 0 65535 lo h1);clear h1;cases fd with
  |false=>
   go_enter Tryz.func271,Tryz.ntmps271;go_wp2_with fail;refine(HC.out _ (HE.out.below ((Below.refl _ w).alloc (yI _) _))).mono ?_;rintro e w1 ⟨rfl,hb1⟩;obtain⟨hb,hz,c0,c1,f0⟩:=zJm hb1;clear hb1;go_wp2_with fail;refine(HN.out _).mono ?_;rintro e w2 ⟨rfl,rfl⟩;go_wp2_with fail;refine bodyPost_ret (v:=.tuple #[.agg #[.int .i64 lo,.int .i64 lo],.bool true]) (by simp[results,Tryz.results271,go_sem, *]) rfl ⟨rfl,?_⟩;exact(hb.setCell (yI _) _).setCell (yI _) _
  |true=>
   cases h2:numIn bk 0 65535 with
   |none=>
    have HM:=hid (num_no bk 0 65535 h2);clear h2;go_enter Tryz.func271,Tryz.ntmps271;go_wp2_with fail;refine(HC.out _ (HE.out.below ((Below.refl _ w).alloc (yI _) _))).mono ?_;rintro e w1 ⟨rfl,hb1⟩;obtain⟨hb,hz,c0,c1,f0⟩:=zJm hb1;clear hb1;go_wp2_with fail;refine(HN.out _).mono ?_;rintro e w2 ⟨rfl,rfl⟩;go_wp2_with fail;refine(HM.out _).mono ?_;rintro e w2 ⟨rfl,rfl⟩;go_wp2_with fail;refine bodyPost_ret (v:=.tuple #[.agg #[.int .i64 0,.int .i64 0],.bool false]) (by simp[results,Tryz.results271,go_sem, *]) rfl ⟨rfl,?_⟩;exact(hb.setCell (yI _) _).setCell (yI _) _
   |some hi=>
    have HM:=hid (num_yes bk 0 65535 hi h2);clear h2;go_enter Tryz.func271,Tryz.ntmps271;go_wp2_with fail;refine(HC.out _ (HE.out.below ((Below.refl _ w).alloc (yI _) _))).mono ?_;rintro e w1 ⟨rfl,hb1⟩;obtain⟨hb,hz,c0,c1,f0⟩:=zJm hb1;clear hb1;go_wp2_with fail;refine(HN.out _).mono ?_;rintro e w2 ⟨rfl,rfl⟩;go_wp2_with fail;refine(HM.out _).mono ?_;rintro e w2 ⟨rfl,rfl⟩;go_wp2_with fail;refine bodyPost_ret (v:=.tuple #[.agg #[.int .i64 lo,.int .i64 hi],.bool true]) (by simp[results,Tryz.results271,go_sem, *]) rfl ⟨rfl,?_⟩;exact(hb.setCell (yI _) _).setCell (yI _) _
theorem wports_any{kb:Bool}(b B:Nat)(p:Ps)(w:World)(h:WSt (187,kb) b B p w)(he:EnvA B w)(hs:p.short):Calls Tryz.prog 253 #[.pointer (some ⟨b,0,none⟩)] w (WPost (187,kb) b B (.agg #[.int .i64 (poV p).1,.int .i64 (poV p).2]) (poS p) w):=by
 have hB:=h.1;have hlt:=h.lt;have hss:=zCr hs;have H:=hid h;have HE:=hid he;have HN:=hid (fun w h=>zCa (kb:=kb) b B p w h);have HM:=hid (fun p ok w h=>zDw (kb:=kb) b B p ok w h);have HK:Hid (∀w,Env w→Calls Tryz.prog 271 #[.string (str (wV p))] w fun e w' => e=.returned (.tuple #[.agg #[.int .i64 (poV p).1,.int .i64 (poV p).2],.bool (portA (wV p)).isSome])∧Below w.heap.size w w'):=hid (fun w he=>by have:=parsePorts_any (wV p) w he (by rw[zBa]at hss;exact hss);exact this);unfold strV at HN;have E:Hid (poS p=mustS (portA (wV p)).isSome (wS p)):=hid rfl;clear h he hs hss;generalize ((poV p).1:Int)=va at HK⊢;generalize ((poV p).2:Int)=vb at HK⊢;generalize (portA (wV p)).isSome=vo at HK E;go_enter Tryz.func253,Tryz.ntmps253;go_wp2_with fail;refine(HN.out _ (H.out.keep ((Below.refl _ w).alloc (yI _) _))).mono ?_;rintro e w1 ⟨rfl,h1,k1⟩;have H1:=hid h1;obtain⟨hz1,c0,c1,f0⟩:=zLt k1 hlt;have K1:=hid ((World.grownBy_alloc w _ _).trans k1);have HE1:=hid ((HE.out.keep ((Below.refl B w).alloc (by omega) _)).on k1 hB (by simp;omega));clear h1 k1;go_wp2_with fail;refine(HK.out w1 HE1.out.1).mono ?_;rintro e w2 ⟨rfl,hb2⟩;obtain⟨hz2,d0,d1,g0⟩:=far_below hb2 hz1 c0 c1 f0;have H2:=hid (H1.out.keep hb2);have K2:=hid (zEq K1.out (hb2.mono (by omega)));clear hb2 c0 c1 f0;have c0' := zCn hz2 d0;have c1' := zCn hz2 d1;have f0' := zEl hz2 g0;clear d0 d1 g0;go_wp2_with fail;refine(HM.out _ _ _ (H2.out.keep ((Below.refl _ w2).alloc (yI _) _))).mono ?_;rintro e w3 ⟨rfl,h3,k3⟩;obtain⟨hz3,e0,e1,g3⟩:=zLt k3 (by omega);obtain⟨hz4,r0,r1,g4⟩:=far_on k3 (g:=w.heap.size) (by simp;omega) (by omega) (c0' _) (c1' _) (f0' _);have H3:=hid h3;have K3:=hid ((K2.out.trans (World.grownBy_alloc w2 _ _)).trans k3);clear h3 k3 c0' c1' f0';go_wp2_with fail;refine bodyPost_ret (v:=.agg #[.int .i64 va,.int .i64 vb]) (by simp[results,Tryz.results253,go_sem, *]) rfl ⟨rfl,?_⟩;rw[E.out];exact wbox_end H3.out K3.out hlt _ _
theorem whost_any{kb:Bool}(b B:Nat)(p:Ps)(w:World)(h:WSt (187,kb) b B p w)(he:EnvA B w)(hs:p.short):Calls Tryz.prog 247 #[.pointer (some ⟨b,0,none⟩)] w (WPost (187,kb) b B (.tuple #[.int .u32 ((hoV p).1:Int),.int .i64 (hoV p).2]) (hoS p) w):=by
 have hB:=h.1;have hlt:=h.lt;have hss:=zCr hs;have H:=hid h;have HE:=hid he;have HN:=hid (fun w h=>zCa (kb:=kb) b B p w h);have HM:=hid (fun p ok w h=>zDw (kb:=kb) b B p ok w h);have HK:Hid (∀w,Env w→Calls Tryz.prog 269 #[.string (str (wV p))] w (zHp (hostA (wV p)) w)):=hid (fun w he=>by have:=zLh (str (wV p)) w he hss;rw[zBk]at this;exact this);unfold strV at HN;unfold hoS hoV;unfold zHp at HK;clear h he hs hss;generalize hostA (wV p)=o at HK⊢;have E:Hid (∀c:Bool,(o.isSome && !((o.getD (0,0)).1==0) && !((o.getD (0,0)).2==0))=c→WPost (187,kb) b B (.tuple #[.int .u32 ((o.getD (0,0)).1:Int),.int .i64 (o.getD (0,0)).2]) (mustS (o.isSome && !((o.getD (0,0)).1==0) && !((o.getD (0,0)).2==0)) (wS p)) w=WPost (187,kb) b B (.tuple #[.int .u32 ((o.getD (0,0)).1:Int),.int .i64 (o.getD (0,0)).2]) (mustS c (wS p)) w):=hid (fun c e=>by rw[e]);cases o with
 |none=>
  rw[E.out false rfl];simp only[Option.getD_none,Option.isSome_none]at HK⊢;go_enter Tryz.func247,Tryz.ntmps247;go_wp2_with fail;refine(HN.out _ H.out).mono ?_;rintro e w1 ⟨rfl,h1,k1⟩;have HE1:=hid (HE.out.on k1 hB (by omega));go_wp2_with fail;refine(HK.out _ HE1.out.1).mono ?_;rintro e w2 ⟨rfl,k2⟩;go_wp2_with fail;refine(HM.out _ _ _ (h1.keep k2)).mono ?_;rintro e w3 ⟨rfl,h3,k3⟩;go_wp2_with fail;go_ret2;exact⟨rfl,h3,(zEq k1 (k2.mono k1.size)).trans k3⟩
 |some x=>
  obtain⟨a,n⟩:=x;simp only[Option.getD_some,Option.isSome_some,Bool.true_and]at HK E⊢;cases ha:(a==0)with
  |true=>
   have q1:(((a:Nat):Int) != 0)=false:=by have:=eq_of_beq ha;subst this;rfl
   rw[ha]at E;have e1:=E.out false rfl;rw[e1];clear ha e1 E;go_enter Tryz.func247,Tryz.ntmps247;go_wp2_with fail;refine(HN.out _ H.out).mono ?_;rintro e w1 ⟨rfl,h1,k1⟩;have HE1:=hid (HE.out.on k1 hB (by omega));go_wp2_with fail;refine(HK.out _ HE1.out.1).mono ?_;rintro e w2 ⟨rfl,k2⟩;go_wp2_with fail;refine(HM.out _ _ _ (h1.keep k2)).mono ?_;rintro e w3 ⟨rfl,h3,k3⟩;go_wp2_with fail;go_ret2;exact⟨rfl,h3,(zEq k1 (k2.mono k1.size)).trans k3⟩
  |false=>
   have q1:(((a:Nat):Int) != 0)=true:=by simp only[bne_iff_ne];intro e;rw[show a=0 from by omega]at ha;cases ha
   rw[ha]at E;cases hn:(n==0)with
   |true=>
    have q2:(n != 0)=false:=by have:=eq_of_beq hn;subst this;rfl
    rw[hn]at E;have e1:=E.out false rfl;rw[e1];clear ha hn e1 E;go_enter Tryz.func247,Tryz.ntmps247;go_wp2_with fail;refine(HN.out _ H.out).mono ?_;rintro e w1 ⟨rfl,h1,k1⟩;have HE1:=hid (HE.out.on k1 hB (by omega));go_wp2_with fail;refine(HK.out _ HE1.out.1).mono ?_;rintro e w2 ⟨rfl,k2⟩;go_wp2_with fail;refine(HM.out _ _ _ (h1.keep k2)).mono ?_;rintro e w3 ⟨rfl,h3,k3⟩;go_wp2_with fail;go_ret2;exact⟨rfl,h3,(zEq k1 (k2.mono k1.size)).trans k3⟩
   |false=>
    have q2:(n != 0)=true:=by simp only[bne_iff_ne];intro e;subst e;cases hn
    rw[hn]at E;have e1:=E.out true rfl;rw[e1];clear ha hn e1 E;go_enter Tryz.func247,Tryz.ntmps247;go_wp2_with fail;refine(HN.out _ H.out).mono ?_;rintro e w1 ⟨rfl,h1,k1⟩;have HE1:=hid (HE.out.on k1 hB (by omega));go_wp2_with fail;refine(HK.out _ HE1.out.1).mono ?_;rintro e w2 ⟨rfl,k2⟩;go_wp2_with fail;refine(HM.out _ _ _ (h1.keep k2)).mono ?_;rintro e w3 ⟨rfl,h3,k3⟩;go_wp2_with fail;go_ret2;exact⟨rfl,h3,(zEq k1 (k2.mono k1.size)).trans k3⟩
theorem aparse_no(l:List UInt8)(h:zCb l=none)(hs:l.length≤1000000000)(w:World)(he:Env w):Calls Tryz.prog 254 #[.string (str l)] w fun e w' => e=.returned (.tuple #[.int .u32 0,.bool false])∧Below w.heap.size w w' :=
 parse_none (by rw[zBk];exact h) w he (by rw[zBa];exact hs)
theorem zLj(l:List UInt8)(a:Nat)(h:zCb l=some a)(hs:l.length≤1000000000)(w:World)(he:Env w):Calls Tryz.prog 254 #[.string (str l)] w fun e w' => e=.returned (.tuple #[.int .u32 (a:Int),.bool true])∧Below w.heap.size w w' :=
 zLs (by rw[zBk];exact h) w he (by rw[zBa];exact hs)
theorem apfx_no(l:List UInt8)(h:pfxA l=none)(hs:l.length≤1000000000)(w:World)(he:Env w):Calls Tryz.prog 248 #[.string (str l)] w fun e w' => e=.returned (.tuple #[.agg #[.int .u32 0,.int .i64 0],.bool false])∧Below w.heap.size w w' := by
 have:=zGs (str l) w he (by rw[zBa];exact hs);rw[zBk,h]at this;exact this
theorem apfx_yes(l:List UInt8)(a:Nat)(n:Int)(h:pfxA l=some (a,n))(hs:l.length≤1000000000)(w:World)(he:Env w):Calls Tryz.prog 248 #[.string (str l)] w fun e w' => e=.returned (.tuple #[.agg #[.int .u32 (a:Int),.int .i64 n],.bool true])∧Below w.heap.size w w' := by
 have:=zGs (str l) w he (by rw[zBa];exact hs);rw[zBk,h]at this;exact this
theorem not_mask(n:Int):bits .xor .u32 IntKind.u32.max (maskN n:Int)=((4294967295 - maskN n:Nat):Int):=by
 rw[i_not];have h1:=sz_le n;have h2:=sz_pos n;unfold maskN;omega
structure WBox (w w' : World):Prop where
 b:Below w.heap.size w w'
 c:HasC 140 w.heap.size #[.int .u32 0,.int .u32 0] w'
theorem WBox.on{w w1 w2:World}(h:WBox w w1)(hb:Below w1.heap.size w1 w2):WBox w w2:=⟨h.b.trans (hb.mono h.b.size),h.c.keep hb⟩
theorem WBox.ans{w w1:World}(h:WBox w w1):w1.cell? ⟨w.heap.size,0,none⟩=some (.int .u32 0)∧w1.cell? ⟨w.heap.size,1,none⟩=some (.int .u32 0)∧∀j,w1.frozen? ⟨w.heap.size,j,none⟩=false:=⟨h.c.cell 0,h.c.cell 1,h.c.frz⟩
theorem zLq(l:List UInt8)(w:World)(he:Env w)(hs:l.length≤1000000000):Calls Tryz.prog 270 #[.string (str l)] w (WiPost (wildA l) w):=by
 have HE:=hid he;have q0:=wq l [97,110,121];have RET:Hid (∀{W:World} (o:Option (Nat × Nat)),wildA l=o→Below w.heap.size w W→WiPost (wildA l) w (.returned (.tuple #[.agg #[.int .u32 ((o.getD (0,0)).1:Int),.int .u32 ((o.getD (0,0)).2:Int)],.bool o.isSome])) W):=hid fun o e h=>by rw[e];exact⟨rfl,h⟩
 have AT:Hid (∀{W:World},Below w.heap.size w W→Env W):=hid fun h=>HE.out.below h
 clear he;cases h0:(l==[97,110,121])with
 |true=>
  have HF:Hid (wildA l=some (0,4294967295)):=hid (by unfold wildA;rw[h0];rfl);rw[h0]at q0;clear h0;have HM:Hid (∀w,Calls Tryz.prog 187 #[.int .i64 32] w fun e w' => e=.returned (.int .u32 4294967295)∧w=w'):=hid (fun w=>zFs 32 w);go_enter Tryz.func270,Tryz.ntmps270;go_wp2_with fail;refine(HM.out _).mono ?_;rintro e w1 ⟨rfl,rfl⟩;go_wp2_with fail;refine bodyPost_ret (v:=.tuple #[.agg #[.int .u32 0,.int .u32 4294967295],.bool true]) (by simp[results,Tryz.results270,go_sem, *]) rfl (RET.out _ HF.out ?_)
  first|exact(((Below.refl _ w).alloc (yI _) _).setCell (yI _) _).setCell (yI _) _|exact((Below.refl _ w).alloc (yI _) _).setCell (yI _) _|exact(Below.refl _ w).alloc (yI _) _
 |false=>
  rw[h0]at q0
  have EW:Hid (wildA l=match zCb l with
   |some a=>some (a,0)
   |none=>match pfxA l with
    |some x=>some (x.1,4294967295 - maskN x.2)
    |none=>match zCb (cutL 126 l).1 with
     |none=>none
     |some a=>match zCb (cutL 126 l).2.1 with
      |none=>none
      |some m=>if a &&& m==0 then some (a,m)else none):=hid (by unfold wildA;rw[h0];rfl)
  have HB:Hid (WBox w (w.alloc (.cells #[.int .u32 0,.int .u32 0] 140))):=hid ⟨(Below.refl _ w).alloc (yI _) _,HasC.new w _ _⟩;clear h0;go_enter Tryz.func270,Tryz.ntmps270;go_wp2_with fail;cases h1:zCb l with
  |some a=>
   refine(zLj l a h1 hs _ (AT.out HB.out.b)).mono ?_;rintro e w1 ⟨rfl,hb⟩;have R:=hid (HB.out.on hb);obtain⟨c0,c1,f0⟩:=R.out.ans;have HF:Hid (wildA l=some (a,0)):=hid (by rw[EW.out,h1]);clear hb HB h1 EW;go_wp2_with fail;refine bodyPost_ret (v:=.tuple #[.agg #[.int .u32 (a:Int),.int .u32 0],.bool true]) (by simp[results,Tryz.results270,go_sem, *]) rfl (RET.out _ HF.out ?_);exact(R.out.b.setCell (yI _) _).setCell (yI _) _
  |none=>
  refine(aparse_no l h1 hs _ (AT.out HB.out.b)).mono ?_;rintro e w1 ⟨rfl,hb⟩;have R:=hid (HB.out.on hb);obtain⟨c0,c1,f0⟩:=R.out.ans;have E1:=hid h1;clear hb HB h1;go_wp2_with fail;cases h2:pfxA l with
  |some x=>
   obtain⟨a,n⟩:=x;refine(apfx_yes l a n h2 hs _ (AT.out R.out.b)).mono ?_;rintro e w2 ⟨rfl,hb⟩;have HF:Hid (wildA l=some (a,4294967295 - maskN n)):=hid (by rw[EW.out,E1.out,h2]);have R2:=hid (R.out.on hb);have R3:=hid fun o=>R2.out.on ((Below.refl _ w2).alloc (yI _) o)
   clear hb R c0 c1 f0 h2 EW E1;have d0:=fun o=>(R3.out o).ans.1
   have d1:=fun o=>(R3.out o).ans.2.1
   have g0:=fun o=>(R3.out o).ans.2.2
   have HM:=hid (fun w=>zFs n w);have E:=not_mask n;go_wp2_with fail
   go_region_with (go_at_call 187;refine(HM.out _).mono ?_;rintro e w' ⟨rfl,rfl⟩)
   all_goals (go_wp2_with fail;refine bodyPost_ret (v:=.tuple #[.agg #[.int .u32 (a:Int),.int .u32 ((4294967295 - maskN n:Nat):Int)],.bool true]) (by simp[results,Tryz.results270,go_sem, *]) rfl (RET.out _ HF.out (((R3.out _).b.setCell (yI _) _).setCell (yI _) _).drew))
  |none=>
  refine(apfx_no l h2 hs _ (AT.out R.out.b)).mono ?_;rintro e w2 ⟨rfl,hb⟩;have R2:=hid (R.out.on hb);have R3:=hid fun o=>R2.out.on ((Below.refl _ w2).alloc (yI _) o)
  clear hb R c0 c1 f0;have hl:=cutL_len 126 l;have l1:(cutL 126 l).1.length≤1000000000:=by omega
  have l2:(cutL 126 l).2.1.length≤1000000000:=by omega
  have HC:=hid (fun w he=>acut_any 126 l w he hs)
  have EV:=hid (by rw[EW.out,E1.out,h2]:wildA l=match(none:Option Nat)with
   |some a=>some (a,0)
   |none=>match(none:Option (Nat × Int))with
    |some x=>some (x.1,4294967295 - maskN x.2)
    |none=>match zCb (cutL 126 l).1 with
     |none=>none
     |some a=>match zCb (cutL 126 l).2.1 with
      |none=>none
      |some m=>if a &&& m==0 then some (a,m)else none)
  clear h2 EW E1 hl;have d0:=fun o=>(R3.out o).ans.1
  have d1:=fun o=>(R3.out o).ans.2.1
  have g0:=fun o=>(R3.out o).ans.2.2
  go_wp2_with fail;refine(HC.out _ (AT.out (R3.out _).b)).mono ?_;rintro e w3 ⟨rfl,hb⟩;have R:=hid ((R3.out _).on hb);obtain⟨c0,c1,f0⟩:=R.out.ans;clear hb R2 R3 d0 d1 g0 HC;generalize cutL 126 l=z at EV l1 l2⊢;obtain⟨fr,bk,fd⟩:=z;dsimp only at EV l1 l2⊢;go_wp2_with fail;cases h3:zCb fr with
  |none=>
   refine(aparse_no fr h3 l1 _ (AT.out R.out.b)).mono ?_;rintro e w4 ⟨rfl,hb⟩;have S:=hid (R.out.on hb);have HF:Hid (wildA l=none):=hid (by rw[EV.out,h3]);clear hb R c0 c1 f0 h3 EV;obtain⟨c0,c1,f0⟩:=S.out.ans;go_wp2_with fail;refine bodyPost_ret (v:=.tuple #[.agg #[.int .u32 0,.int .u32 0],.bool false]) (by simp[results,Tryz.results270,go_sem, *]) rfl (RET.out none HF.out ?_);exact(S.out.b.setCell (yI _) _).setCell (yI _) _
  |some a=>
  refine(zLj fr a h3 l1 _ (AT.out R.out.b)).mono ?_;rintro e w4 ⟨rfl,hb⟩;have S:=hid (R.out.on hb);have la:=zGy h3
  have E3:Hid (wildA l=match zCb bk with
   |none=>none
   |some m=>if a &&& m==0 then some (a,m)else none):=hid (by rw[EV.out,h3])
  clear hb R c0 c1 f0 h3 EV;obtain⟨c0,c1,f0⟩:=S.out.ans;go_wp2_with fail;cases h4:zCb bk with
  |none=>
   refine(aparse_no bk h4 l2 _ (AT.out S.out.b)).mono ?_;rintro e w5 ⟨rfl,hb⟩;have R:=hid (S.out.on hb);have HF:Hid (wildA l=none):=hid (by rw[E3.out,h4]);clear hb S c0 c1 f0 h4 E3;obtain⟨c0,c1,f0⟩:=R.out.ans;go_wp2_with fail;refine bodyPost_ret (v:=.tuple #[.agg #[.int .u32 0,.int .u32 0],.bool false]) (by simp[results,Tryz.results270,go_sem, *]) rfl (RET.out none HF.out ?_);exact(R.out.b.setCell (yI _) _).setCell (yI _) _
  |some m=>
  refine(zLj bk m h4 l2 _ (AT.out S.out.b)).mono ?_;rintro e w5 ⟨rfl,hb⟩;have R:=hid (S.out.on hb);have E:=u32_and_nat a m la (zGy h4);clear c0 c1 f0;obtain⟨c0,c1,f0⟩:=R.out.ans;have E4:Hid (wildA l=if a &&& m==0 then some (a,m)else none):=hid (by rw[E3.out,h4]);clear hb S h4 E3;cases h5:(a &&& m==0)with
  |true=>
   have q5:(((a &&& m:Nat):Int) != 0)=false:=by have:=eq_of_beq h5;rw[this];rfl
   have HF:Hid (wildA l=some (a,m)):=hid (by rw[E4.out,h5];rfl);clear h5;go_wp2_with fail;refine bodyPost_ret (v:=.tuple #[.agg #[.int .u32 (a:Int),.int .u32 (m:Int)],.bool true]) (by simp[results,Tryz.results270,go_sem, *]) rfl (RET.out _ HF.out ?_);exact(R.out.b.setCell (yI _) _).setCell (yI _) _
  |false=>
   have q5:(((a &&& m:Nat):Int) != 0)=true:=by simp only[bne_iff_ne];intro e;rw[show a &&& m=0 from by omega]at h5;cases h5
   have HF:Hid (wildA l=none):=hid (by rw[E4.out,h5];rfl);clear h5;go_wp2_with fail;refine bodyPost_ret (v:=.tuple #[.agg #[.int .u32 0,.int .u32 0],.bool false]) (by simp[results,Tryz.results270,go_sem, *]) rfl (RET.out none HF.out ?_);exact(R.out.b.setCell (yI _) _).setCell (yI _) _
theorem zKz{kb:Bool}(b B:Nat)(p:Ps)(w:World)(h:WSt (187,kb) b B p w)(he:EnvA B w)(hs:p.short):Calls Tryz.prog 252 #[.pointer (some ⟨b,0,none⟩)] w (WPost (187,kb) b B (.agg #[.int .u32 ((wiV p).1:Int),.int .u32 ((wiV p).2:Int)]) (wiS p) w):=by
 have hB:=h.1;have hlt:=h.lt;have hss:=zCr hs;have H:=hid h;have HE:=hid he;have HN:=hid (fun w h=>zCa (kb:=kb) b B p w h);have HM:=hid (fun p ok w h=>zDw (kb:=kb) b B p ok w h);have HK:Hid (∀w,Env w→Calls Tryz.prog 270 #[.string (str (wV p))] w fun e w' => e=.returned (.tuple #[.agg #[.int .u32 ((wiV p).1:Int),.int .u32 ((wiV p).2:Int)],.bool (wildA (wV p)).isSome])∧Below w.heap.size w w'):=hid (fun w he=>zLq (wV p) w he (by rw[zBa]at hss;exact hss));unfold strV at HN;have E:Hid (wiS p=mustS (wildA (wV p)).isSome (wS p)):=hid rfl;clear h he hs hss;generalize (((wiV p).1:Int):Int)=va at HK⊢;generalize (((wiV p).2:Int):Int)=vb at HK⊢;generalize (wildA (wV p)).isSome=vo at HK E;go_enter Tryz.func252,Tryz.ntmps252;go_wp2_with fail;refine(HN.out _ (H.out.keep ((Below.refl _ w).alloc (yI _) _))).mono ?_;rintro e w1 ⟨rfl,h1,k1⟩;have H1:=hid h1;obtain⟨hz1,c0,c1,f0⟩:=zLt k1 hlt;have K1:=hid ((World.grownBy_alloc w _ _).trans k1);have HE1:=hid ((HE.out.keep ((Below.refl B w).alloc (by omega) _)).on k1 hB (by simp;omega));clear h1 k1;go_wp2_with fail;refine(HK.out w1 HE1.out.1).mono ?_;rintro e w2 ⟨rfl,hb2⟩;obtain⟨hz2,d0,d1,g0⟩:=far_below hb2 hz1 c0 c1 f0;have H2:=hid (H1.out.keep hb2);have K2:=hid (zEq K1.out (hb2.mono (by omega)));clear hb2 c0 c1 f0;have c0' := zCn hz2 d0;have c1' := zCn hz2 d1;have f0' := zEl hz2 g0;clear d0 d1 g0;go_wp2_with fail;refine(HM.out _ _ _ (H2.out.keep ((Below.refl _ w2).alloc (yI _) _))).mono ?_;rintro e w3 ⟨rfl,h3,k3⟩;obtain⟨hz3,e0,e1,g3⟩:=zLt k3 (by omega);obtain⟨hz4,r0,r1,g4⟩:=far_on k3 (g:=w.heap.size) (by simp;omega) (by omega) (c0' _) (c1' _) (f0' _);have H3:=hid h3;have K3:=hid ((K2.out.trans (World.grownBy_alloc w2 _ _)).trans k3);clear h3 k3 c0' c1' f0';go_wp2_with fail;refine bodyPost_ret (v:=.agg #[.int .u32 va,.int .u32 vb]) (by simp[results,Tryz.results252,go_sem, *]) rfl ⟨rfl,?_⟩;rw[E.out];exact wbox_end H3.out K3.out hlt _ _
abbrev Tk:=Int × List UInt8
inductive Nd where
 |mk (line:Int) (words:List (List UInt8)) (block:Bool) (kids:List Nd)
def special(t:List UInt8):Bool:=t==[59]||t==[123]||t==[125]
mutual
def seqN(lines:Int):Nat→Bool→List Tk→List Nd→Except Int (List Nd × List Tk)
 |0,_,_,_=>.error lines
 |_+1,inner,[],ns=>if inner then .error lines else .ok (ns,[])
 |n+1,inner,t :: r,ns=>if inner&&t.2==[125]then .ok (ns,r)else match nodeN lines n t.1 (t :: r) []with
  |.error l=>.error l
  |.ok (x,r')=>seqN lines n inner r' (ns++[x])
def nodeN(lines:Int):Nat→Int→List Tk→List (List UInt8)→Except Int (Nd × List Tk)
 |0,_,_,_=>.error lines
 |_+1,_,[],_=>.error lines
 |n+1,at_,t :: r,ws=>if !special t.2 then nodeN lines n at_ r (ws++[t.2])
  else if ws.isEmpty||t.2==[125]then .error t.1
  else if t.2==[59]then .ok (.mk at_ ws false [],r)
  else match seqN lines n true r []with
   |.error l=>.error l
   |.ok (ks,r')=>.ok (.mk at_ ws true ks,r')
end
inductive Fm where
 |top|system|interfaces|iface|prefixRules|clauses|clause|rules|rule|translations|statics|static|linkState|distance|path|neighbor
 |redLS|redDV|redPV
deriving DecidableEq
def lastF{α:Type}(f:α→α):List α→List α
 |[]=>[]
 |[x]=>[f x]
 |x :: r=>x :: lastF f r
def rtN:Rt:={ name:=[],asn:=0,ifsV:=.slice none 0 0,listsV:=.slice none 0 0,mapsV:=.slice none 0 0,aclsV:=.slice none 0 0,natV:=.slice none 0 0,statV:=.slice none 0 0,lsOn:=false,lsAdmin:=0,rangesV:=.slice none 0 0,lsRedV:=.slice none 0 0,dvOn:=false,dvAdmin:=0,dvIn:=[],dvOut:=[],dvRedV:=.slice none 0 0,pvOn:=false,ext:=0,int:=0,nbV:=.slice none 0 0,netV:=.slice none 0 0,agV:=.slice none 0 0,cdV:=.slice none 0 0,pvRedV:=.slice none 0 0,ifs:=[],lists:=[],maps:=[],acls:=[],nat:=[],stat:=[],ranges:=[],lsRed:=[],dvRed:=[],nb:=[],net:=[],ag:=[],cd:=[],pvRed:=[] }
abbrev FmR:=List UInt8 × Option Fm × Rt × Ps
def nmK(a b:List UInt8):List UInt8:=a++[32]++b
def srcN(n:Int):List UInt8:=if n=1 then [100,105,114,101,99,116]else if n=2 then [115,116,97,116,105,99]else if n=3 then [108,105,110,107,45,115,116,97,116,101]else if n=4 then [100,105,115,116,97,110,99,101,45,118,101,99,116,111,114]else [112,97,116,104,45,118,101,99,116,111,114]
def ifF(g:If→If)(r:Rt):Rt:={ r with ifs:=lastF g r.ifs }
def plF(x:PRule)(r:Rt):Rt:={ r with lists:=lastF (fun l=>{ l with rules:=l.rules++[x] }) r.lists }
def clF(g:Cl→Cl)(r:Rt):Rt:={ r with maps:=lastF (fun m=>{ m with clauses:=lastF g m.clauses }) r.maps }
def ruF(g:Ru→Ru)(r:Rt):Rt:={ r with acls:=lastF (fun l=>{ l with rules:=lastF g l.rules }) r.acls }
def stF(g:Sr→Sr)(r:Rt):Rt:={ r with stat:=lastF g r.stat }
def nbF' (g:Nb→Nb)(r:Rt):Rt:={ r with nb:=lastF g r.nb }
def impS(blk:Bool)(fm:Fm)(put:Rd→Rt→Rt)(d:Rd)(r:Rt)(p:Ps):FmR :=
 (nmK [105,109,112,111,114,116] (srcN (srcV p)),if blk then some fm else none,put { d with frm:=srcV p } r,srcS p)
def topF(r:Rt)(p:Ps):FmR :=
 if wV p==[115,121,115,116,101,109]then(wV p,some .system,r,wS p)
 else if wV p==[105,110,116,101,114,102,97,99,101,115]then(wV p,some .interfaces,r,wS p)
 else if wV p==[112,114,101,102,105,120,45,108,105,115,116]then(nmK (wV p) (nmV (wS p)),some .prefixRules,{ r with lists:=r.lists++[⟨nmV (wS p),.slice none 0 0,[]⟩] },nmS (wS p))
 else if wV p==[112,111,108,105,99,121]then(nmK (wV p) (nmV (wS p)),some .clauses,{ r with maps:=r.maps++[⟨nmV (wS p),.slice none 0 0,[]⟩] },nmS (wS p))
 else if wV p==[102,105,108,116,101,114]then(nmK (wV p) (nmV (wS p)),some .rules,{ r with acls:=r.acls++[⟨nmV (wS p),.slice none 0 0,[]⟩] },nmS (wS p))
 else if wV p==[116,114,97,110,115,108,97,116,105,111,110]then(wV p,some .translations,r,wS p)
 else if wV p==[115,116,97,116,105,99]then(wV p,some .statics,r,wS p)
 else if wV p==[108,105,110,107,45,115,116,97,116,101]then(wV p,some .linkState,{ r with lsOn:=true,lsAdmin:=10 },wS p)
 else if wV p==[100,105,115,116,97,110,99,101,45,118,101,99,116,111,114]then(wV p,some .distance,{ r with dvOn:=true,dvAdmin:=100 },wS p)
 else if wV p==[112,97,116,104,45,118,101,99,116,111,114]then(wV p,some .path,{ r with pvOn:=true,ext:=170,int:=170 },wS p)
 else([],none,r,(wS p).fail)
def zIc(r:Rt)(p:Ps):FmR :=
 if wV p==[104,111,115,116,45,110,97,109,101]then(wV p,none,{ r with name:=nmV (wS p) },nmS (wS p))
 else if wV p==[97,117,116,111,110,111,109,111,117,115,45,115,121,115,116,101,109]then(wV p,none,{ r with asn:=noV 1 65535 (wS p) },noS 1 65535 (wS p))
 else(wV p,none,r,(wS p).fail)
def zIb(r:Rt)(p:Ps):FmR:=(nmV p,some .iface,{ r with ifs:=r.ifs++[⟨nmV p,0,0,0,false,false,0,0,false,[],[],0⟩] },nmS p)
def ifLS(p:Ps):Int × Int × Ps:=let p1:=mustS (isW [97,114,101,97] p) (optS [97,114,101,97] p);let p2:=noS 0 255 p1
 if isW [99,111,115,116] p2 then(noV 0 255 p1,noV 1 65535 (optS [99,111,115,116] p2),noS 1 65535 (optS [99,111,115,116] p2))else(noV 0 255 p1,1,p2)
def zDy(r:Rt)(p:Ps):FmR :=
 if wV p==[97,100,100,114,101,115,115]then(wV p,none,ifF (fun x=>{ x with addr:=(hoV (wS p)).1,len:=(hoV (wS p)).2 }) r,hoS (wS p))
 else if wV p==[118,108,97,110]then(wV p,none,ifF (fun x=>{ x with vlan:=noV 0 4094 (wS p) }) r,noS 0 4094 (wS p))
 else if wV p==[100,105,115,97,98,108,101]then(wV p,none,ifF (fun x=>{ x with down:=true }) r,wS p)
 else if wV p==[108,105,110,107,45,115,116,97,116,101]then(wV p,none,ifF (fun x=>{ x with ls:=true,area:=(ifLS (wS p)).1,cost:=(ifLS (wS p)).2.1 }) r,(ifLS (wS p)).2.2)
 else if wV p==[100,105,115,116,97,110,99,101,45,118,101,99,116,111,114]then(wV p,none,ifF (fun x=>{ x with dv:=true }) r,wS p)
 else if wV p==[105,110,112,117,116]then(wV p,none,ifF (fun x=>{ x with inn:=nmV (wS p) }) r,nmS (wS p))
 else if wV p==[111,117,116,112,117,116]then(wV p,none,ifF (fun x=>{ x with out:=nmV (wS p) }) r,nmS (wS p))
 else if wV p==[115,105,100,101]then(wV p,none,ifF (fun x=>{ x with side:=if chB [105,110,115,105,100,101] [111,117,116,115,105,100,101] (wS p)then 1 else 2 }) r,chS [105,110,115,105,100,101] [111,117,116,115,105,100,101] (wS p))
 else(wV p,none,r,(wS p).fail)
def zFn(n:Int)(p:Ps):Int × Int × Ps :=
 if isW [101,120,97,99,116] p then(n,n,optS [101,120,97,99,116] p)else if isW [111,114,108,111,110,103,101,114] p then(n,32,optS [111,114,108,111,110,103,101,114] p)else if isW [117,112,116,111] p then(n,noV 0 32 (optS [117,112,116,111] p),noS 0 32 (optS [117,112,116,111] p))
 else if isW [114,97,110,103,101] p then(noV 0 32 (optS [114,97,110,103,101] p),noV 0 32 (noS 0 32 (optS [114,97,110,103,101] p)),noS 0 32 (noS 0 32 (optS [114,97,110,103,101] p)))else(n,n,p)
def zGc(r:Rt)(p:Ps):FmR:=let p1:=chS [112,101,114,109,105,116] [100,101,110,121] p;let x:=pxV p1;let b:=zFn x.2 (pxS p1)
 ([],none,plF ⟨chB [112,101,114,109,105,116] [100,101,110,121] p,x.1,x.2,b.1,b.2.1⟩ r,b.2.2)
def zKg(r:Rt)(p:Ps):FmR:=([],some .clause,{ r with maps:=lastF (fun m=>{ m with clauses:=m.clauses++[⟨true,[], -1, -1, -1, -1,0⟩] }) r.maps },mustS (isW [116,101,114,109] p) (optS [116,101,114,109] p))
def zCz(r:Rt)(p:Ps):FmR :=
 if wV p==[97,99,99,101,112,116]||wV p==[114,101,106,101,99,116]then([97,99,116,105,111,110],none,clF (fun c=>{ c with permit:=wV p==[97,99,99,101,112,116] }) r,wS p)else
 let k:=nmK (wV p) (wV (wS p));let p2:=wS (wS p)
 if k==[102,114,111,109,32,108,105,115,116]then(k,none,clF (fun c=>{ c with list:=nmV p2 }) r,nmS p2)
 else if k==[102,114,111,109,32,116,97,103]then(k,none,clF (fun c=>{ c with tag:=noV 0 65535 p2 }) r,noS 0 65535 p2)
 else if k==[116,104,101,110,32,109,101,116,114,105,99]then(k,none,clF (fun c=>{ c with setM:=noV 0 16777215 p2 }) r,noS 0 16777215 p2)
 else if k==[116,104,101,110,32,116,97,103]then(k,none,clF (fun c=>{ c with setT:=noV 0 65535 p2 }) r,noS 0 65535 p2)
 else if k==[116,104,101,110,32,112,114,101,102,101,114,101,110,99,101]then(k,none,clF (fun c=>{ c with setP:=noV 0 1000000 p2 }) r,noS 0 1000000 p2)
 else if k==[116,104,101,110,32,112,114,101,112,101,110,100]then(k,none,clF (fun c=>{ c with prep:=noV 0 8 p2 }) r,noS 0 8 p2)
 else(k,none,r,p2.fail)
def rulesF(r:Rt)(p:Ps):FmR:=([],some .rule,{ r with acls:=lastF (fun l=>{ l with rules:=l.rules++[⟨true, -1,0,4294967295,0,4294967295,0,65535,0,65535⟩] }) r.acls },mustS (isW [116,101,114,109] p) (optS [116,101,114,109] p))
def ruleF(r:Rt)(p:Ps):FmR :=
 if wV p==[112,114,111,116,111,99,111,108]then(wV p,none,ruF (fun x=>{ x with proto:=protV (wS p) }) r,protS (wS p))
 else if wV p==[115,111,117,114,99,101]then(wV p,none,ruF (fun x=>{ x with sa:=(wiV (wS p)).1,sm:=(wiV (wS p)).2 }) r,wiS (wS p))
 else if wV p==[100,101,115,116,105,110,97,116,105,111,110]then(wV p,none,ruF (fun x=>{ x with da:=(wiV (wS p)).1,dm:=(wiV (wS p)).2 }) r,wiS (wS p))
 else if wV p==[115,111,117,114,99,101,45,112,111,114,116]then(wV p,none,ruF (fun x=>{ x with slo:=(poV (wS p)).1,shi:=(poV (wS p)).2 }) r,poS (wS p))
 else if wV p==[100,101,115,116,105,110,97,116,105,111,110,45,112,111,114,116]then(wV p,none,ruF (fun x=>{ x with dlo:=(poV (wS p)).1,dhi:=(poV (wS p)).2 }) r,poS (wS p))
 else if wV p==[97,99,99,101,112,116]then([97,99,116,105,111,110],none,ruF (fun x=>{ x with permit:=true }) r,wS p)
 else if wV p==[100,105,115,99,97,114,100]then([97,99,116,105,111,110],none,ruF (fun x=>{ x with permit:=false }) r,wS p)
 else(wV p,none,r,(wS p).fail)
def natF(p:Ps):Tr × Ps:=let q:=wS p
 if wV p==[115,116,97,116,105,99]then(⟨1,adV q,adV (adS q),0,0,0,[],0,0⟩,adS (adS q))
 else if wV p==[112,111,111,108]then(⟨2,0,0,0,0,0,nmV q,adV (nmS q),adV (adS (nmS q))⟩,adS (adS (nmS q)))
 else if wV p==[102,111,114,119,97,114,100]then let q1:=chS [116,99,112] [117,100,112] q;let q2:=adS q1;let q3:=noS 0 65535 q2;let q4:=adS q3
  (⟨3,adV q3,adV q1,if chB [116,99,112] [117,100,112] q then 6 else 17,noV 0 65535 q4,noV 0 65535 q2,[],0,0⟩,noS 0 65535 q4)
 else(⟨0,0,0,0,0,0,[],0,0⟩,q.fail)
def zGl(r:Rt)(p:Ps):FmR:=([],none,{ r with nat:=r.nat++[(natF p).1] },(natF p).2)
def zMv(r:Rt)(p:Ps):FmR:=let q:=mustS (isW [114,111,117,116,101] p) (optS [114,111,117,116,101] p)
 ([],some .static,{ r with stat:=r.stat++[⟨(pxV q).1,(pxV q).2,0,[],false,5,0⟩] },pxS q)
def zEr(r:Rt)(p:Ps):FmR :=
 if wV p==[110,101,120,116,45,104,111,112]then([116,97,114,103,101,116],none,stF (fun x=>{ x with next:=adV (wS p) }) r,adS (wS p))
 else if wV p==[105,110,116,101,114,102,97,99,101]then([116,97,114,103,101,116],none,stF (fun x=>{ x with iface:=nmV (wS p) }) r,nmS (wS p))
 else if wV p==[100,105,115,99,97,114,100]then([116,97,114,103,101,116],none,stF (fun x=>{ x with discard:=true }) r,wS p)
 else if wV p==[112,114,101,102,101,114,101,110,99,101]then(wV p,none,stF (fun x=>{ x with admin:=noV 1 255 (wS p) }) r,noS 1 255 (wS p))
 else if wV p==[116,97,103]then(wV p,none,stF (fun x=>{ x with tag:=noV 0 65535 (wS p) }) r,noS 0 65535 (wS p))
 else(wV p,none,r,(wS p).fail)
def zDt(blk:Bool)(r:Rt)(p:Ps):FmR :=
 if wV p==[112,114,101,102,101,114,101,110,99,101]then(wV p,none,{ r with lsAdmin:=noV 1 255 (wS p) },noS 1 255 (wS p))
 else if wV p==[114,97,110,103,101]then([],none,{ r with ranges:=r.ranges++[⟨noV 0 255 (wS p),(pxV (noS 0 255 (wS p))).1,(pxV (noS 0 255 (wS p))).2⟩] },pxS (noS 0 255 (wS p)))
 else if wV p==[105,109,112,111,114,116]then impS blk .redLS (fun x r=>{ r with lsRed:=r.lsRed++[x] }) ⟨0,0,0,[],1⟩ r (wS p)
 else(wV p,none,r,(wS p).fail)
def zDv(blk:Bool)(r:Rt)(p:Ps):FmR :=
 if wV p==[112,114,101,102,101,114,101,110,99,101]then(wV p,none,{ r with dvAdmin:=noV 1 255 (wS p) },noS 1 255 (wS p))
 else if wV p==[105,110,112,117,116]then(wV p,none,{ r with dvIn:=nmV (wS p) },nmS (wS p))
 else if wV p==[111,117,116,112,117,116]then(wV p,none,{ r with dvOut:=nmV (wS p) },nmS (wS p))
 else if wV p==[105,109,112,111,114,116]then impS blk .redDV (fun x r=>{ r with dvRed:=r.dvRed++[x] }) ⟨0,1,0,[],0⟩ r (wS p)
 else(wV p,none,r,(wS p).fail)
def pathF(blk:Bool)(r:Rt)(p:Ps):FmR :=
 if wV p==[112,114,101,102,101,114,101,110,99,101]then if chB [101,120,116,101,114,110,97,108] [105,110,116,101,114,110,97,108] (wS p)then(nmK (wV p) [101,120,116,101,114,110,97,108],none,{ r with ext:=noV 1 255 (chS [101,120,116,101,114,110,97,108] [105,110,116,101,114,110,97,108] (wS p)) },noS 1 255 (chS [101,120,116,101,114,110,97,108] [105,110,116,101,114,110,97,108] (wS p)))else(nmK (wV p) [105,110,116,101,114,110,97,108],none,{ r with int:=noV 1 255 (chS [101,120,116,101,114,110,97,108] [105,110,116,101,114,110,97,108] (wS p)) },noS 1 255 (chS [101,120,116,101,114,110,97,108] [105,110,116,101,114,110,97,108] (wS p)))
 else if wV p==[110,101,105,103,104,98,111,114]then(nmK (wV p) (fmtA (adV (wS p))),some .neighbor,{ r with nb:=r.nb++[⟨adV (wS p),0,[],[]⟩] },adS (wS p))
 else if wV p==[110,101,116,119,111,114,107]then(nmK (wV p) (pfxF (pxV (wS p)).1 (pxV (wS p)).2),none,{ r with net:=r.net++[⟨(pxV (wS p)).1,(pxV (wS p)).2⟩] },pxS (wS p))
 else if wV p==[97,103,103,114,101,103,97,116,101]then(nmK (wV p) (pfxF (pxV (wS p)).1 (pxV (wS p)).2),none,{ r with ag:=r.ag++[⟨(pxV (wS p)).1,(pxV (wS p)).2,isW [111,110,108,121] (pxS (wS p))⟩] },optS [111,110,108,121] (pxS (wS p)))
 else if wV p==[111,114,105,103,105,110,97,116,101]then(nmK (wV p) (pfxF (pxV (wS p)).1 (pxV (wS p)).2),none,{ r with cd:=r.cd++[⟨(pxV (wS p)).1,(pxV (wS p)).2,(pxV (chS [105,102] [117,110,108,101,115,115] (pxS (wS p)))).1,(pxV (chS [105,102] [117,110,108,101,115,115] (pxS (wS p)))).2,!chB [105,102] [117,110,108,101,115,115] (pxS (wS p))⟩] },pxS (chS [105,102] [117,110,108,101,115,115] (pxS (wS p))))
 else if wV p==[105,109,112,111,114,116]then impS blk .redPV (fun x r=>{ r with pvRed:=r.pvRed++[x] }) ⟨0,0,0,[],0⟩ r (wS p)
 else([],none,r,(wS p).fail)
def zEc(r:Rt)(p:Ps):FmR :=
 if wV p==[97,115]then(wV p,none,nbF' (fun x=>{ x with asn:=noV 1 65535 (wS p) }) r,noS 1 65535 (wS p))
 else if wV p==[105,109,112,111,114,116]then(wV p,none,nbF' (fun x=>{ x with inn:=nmV (wS p) }) r,nmS (wS p))
 else if wV p==[101,120,112,111,114,116]then(wV p,none,nbF' (fun x=>{ x with out:=nmV (wS p) }) r,nmS (wS p))
 else(wV p,none,r,(wS p).fail)
def redF' (typed:Bool)(put:(Rd→Rd)→Rt→Rt)(r:Rt)(p:Ps):FmR :=
 if wV p==[109,101,116,114,105,99]then(wV p,none,put (fun x=>{ x with metric:=noV 0 16777215 (wS p) }) r,noS 0 16777215 (wS p))
 else if wV p==[116,97,103]then(wV p,none,put (fun x=>{ x with tag:=noV 0 65535 (wS p) }) r,noS 0 65535 (wS p))
 else if wV p==[112,111,108,105,99,121]then(wV p,none,put (fun x=>{ x with map:=nmV (wS p) }) r,nmS (wS p))
 else if wV p==[116,121,112,101]&&typed then(wV p,none,put (fun x=>{ x with typ:=noV 1 2 (wS p) }) r,noS 1 2 (wS p))
 else(wV p,none,r,(wS p).fail)
def fmS(f:Fm)(blk:Bool)(r:Rt)(p:Ps):FmR:=match f with
 |.top=>topF r p
 |.system=>zIc r p
 |.interfaces=>zIb r p
 |.iface=>zDy r p
 |.prefixRules=>zGc r p
 |.clauses=>zKg r p
 |.clause=>zCz r p
 |.rules=>rulesF r p
 |.rule=>ruleF r p
 |.translations=>zGl r p
 |.statics=>zMv r p
 |.static=>zEr r p
 |.linkState=>zDt blk r p
 |.distance=>zDv blk r p
 |.path=>pathF blk r p
 |.neighbor=>zEc r p
 |.redLS=>redF' true (fun g r=>{ r with lsRed:=lastF g r.lsRed }) r p
 |.redDV=>redF' false (fun g r=>{ r with dvRed:=lastF g r.dvRed }) r p
 |.redPV=>redF' false (fun g r=>{ r with pvRed:=lastF g r.pvRed }) r p
mutual
def readN(f:Fm):List (List UInt8)→List Nd→Rt→Rt × Option (Int × Int)
 |_,[],r=>(r,none)
 |keys,n :: ns,r=>match zEz f keys n r with
  |(r', keys', none)=>readN f keys' ns r'
  |(r', _,some e)=>(r', some e)
def zEz(f:Fm)(keys:List (List UInt8)):Nd→Rt→Rt × List (List UInt8) × Option (Int × Int)
 |.mk line words blk kids,r=>match fmS f blk r ⟨words,false⟩with
  |(key,inner,r', p)=>
   if !doneB p||blk != inner.isSome then(r', keys,some (line,2))
   else if !key.isEmpty&&keys.contains key then(r', keys,some (line,4))
   else match inner with
    |none=>(r', key :: keys,none)
    |some g=>match readN g [] kids r' with
     |(r'', e)=>(r'', key :: keys,e)
end
theorem adV_lt(p:Ps):adV p<4294967296:=by
 unfold adV;cases h:zCb (wV p)with
 |none=>simp
 |some a=>simpa using zGy h
theorem hoV_lt(p:Ps):(hoV p).1<4294967296:=by
 unfold hoV;cases h:hostA (wV p)with
 |none=>simp
 |some a=>obtain⟨a,n⟩:=a;simpa using (hostA_lt h).1
theorem zJk(p:Ps):(pxV p).1<4294967296:=by
 unfold pxV;cases h:pfxA (wV p)with
 |none=>simp
 |some a=>obtain⟨a,n⟩:=a;simpa using (pfxA_fit h).1
theorem wildA_lt{l:List UInt8}{x:Nat × Nat}(h:wildA l=some x):x.1<4294967296∧x.2<4294967296:=by
 unfold wildA at h;split at h
 ·cases h;simp
 ·split at h
  ·rename_i a ha;cases h;exact⟨zGy ha,by simp⟩
  ·split at h
   ·rename_i p hp;cases h;obtain⟨a,n⟩:=p;exact⟨(pfxA_fit hp).1,by dsimp only;omega⟩
   ·split at h
    ·cases h
    ·rename_i a ha
     split at h
     ·cases h
     ·rename_i m hm
      split at h
      ·cases h;exact⟨zGy ha,zGy hm⟩
      ·cases h
theorem wiV_lt(p:Ps):(wiV p).1<4294967296∧(wiV p).2<4294967296:=by
 unfold wiV;cases h:wildA (wV p)with
 |none=>simp
 |some a=>simpa using wildA_lt h
def LF{α:Type}(fit:α→Prop)(k:Nat)(l:List α):Prop:=l.length≤k∧∀x∈l,fit x
section
variable {α : Type} {fit fit' : α → Prop} {k : Nat} {l : List α}
theorem LF.nil:LF fit k []:=⟨Nat.zero_le _,fun _ h=>by cases h⟩
theorem LF.up(h:LF fit k l):LF fit (k+1) l:=⟨Nat.le_succ_of_le h.1,h.2⟩
theorem LF.imp(h:LF fit k l)(hi:∀x,fit x→fit' x):LF fit' (k+1) l:=⟨Nat.le_succ_of_le h.1,fun x hx=>hi x (h.2 x hx)⟩
theorem LF.imp' (h:LF fit k l)(hi:∀x,fit x→fit' x):LF fit' k l:=⟨h.1,fun x hx=>hi x (h.2 x hx)⟩
theorem LF.snoc(h:LF fit k l){x:α}(hx:fit x):LF fit (k+1) (l++[x]) :=
 ⟨by rw[yA];have:=h.1;simp;omega,fun y hy=>by
  rcases List.mem_append.1 hy with hy|hy
  ·exact h.2 y hy
  ·obtain rfl:=List.mem_singleton.1 hy;exact hx⟩
theorem lastF_len(f:α→α):∀l:List α,(lastF f l).length=l.length
 |[]=>rfl
 |[_]=>rfl
 |x :: y :: r=>by
  rw[lastF,yG,lastF_len f (y :: r)]
  ·rfl
  ·intro h;cases h
theorem lastF_mem(f:α→α):∀(l:List α) (y:α),y∈lastF f l→y∈l∨∃x∈l,y=f x
 |[],_,h=>by cases h
 |[x],y,h=>by
  rw[lastF,List.mem_singleton]at h;exact .inr ⟨x,List.mem_cons_self,h⟩
 |x :: z :: r,y,h=>by
  rw[lastF]at h
  ·rcases List.mem_cons.1 h with h|h
   ·exact .inl (h ▸ List.mem_cons_self)
   ·rcases lastF_mem f (z :: r) y h with h|⟨u,h,e⟩
    ·exact .inl (List.mem_cons_of_mem _ h)
    ·exact .inr ⟨u,List.mem_cons_of_mem _ h,e⟩
  ·intro h;cases h
theorem LF.last(h:LF fit k l){f:α→α}(hf:∀x,fit x→fit' (f x))(hi:∀x,fit x→fit' x):LF fit' (k+1) (lastF f l) :=
 ⟨by rw[lastF_len];exact Nat.le_succ_of_le h.1,fun y hy=>by
  rcases lastF_mem f l y hy with hy|⟨x,hx,rfl⟩
  ·exact hi _ (h.2 y hy)
  ·exact hf _ (h.2 x hx)⟩
end
def PLk(k:Nat)(l:PList):Prop:=LF PRule.fit k l.rules
def RMk(k:Nat)(m:RMap):Prop:=LF Cl.fit k m.clauses
def ALk(k:Nat)(l:AList):Prop:=LF Ru.fit k l.rules
structure RtI (k:Nat) (r:Rt):Prop where
 ifs:LF (If.fit) k r.ifs
 lists:LF (PLk k) k r.lists
 maps:LF (RMk k) k r.maps
 acls:LF (ALk k) k r.acls
 nat:LF (Tr.fit) k r.nat
 stat:LF (Sr.fit) k r.stat
 ranges:LF (AR.fit) k r.ranges
 lsRed:LF (Rd.fit) k r.lsRed
 dvRed:LF (Rd.fit) k r.dvRed
 nb:LF (Nb.fit) k r.nb
 net:LF (Pf.fit) k r.net
 ag:LF (Ag.fit) k r.ag
 cd:LF (Cd.fit) k r.cd
 pvRed:LF (Rd.fit) k r.pvRed
section
variable {k : Nat} {r : Rt}
theorem RtI.up(h:RtI k r):RtI (k+1) r:=⟨h.ifs.up,h.lists.imp fun _ hx=>LF.up hx,h.maps.imp fun _ hx=>LF.up hx,h.acls.imp fun _ hx=>LF.up hx,h.nat.up,h.stat.up,h.ranges.up,h.lsRed.up,h.dvRed.up,h.nb.up,h.net.up,h.ag.up,h.cd.up,h.pvRed.up⟩
theorem RtI.set_ifs(h:RtI k r){l}(hl:LF (If.fit) k l):RtI k { r with ifs:=l }:=⟨hl,h.lists,h.maps,h.acls,h.nat,h.stat,h.ranges,h.lsRed,h.dvRed,h.nb,h.net,h.ag,h.cd,h.pvRed⟩
theorem RtI.set_lists(h:RtI k r){l}(hl:LF (PLk k) k l):RtI k { r with lists:=l }:=⟨h.ifs,hl,h.maps,h.acls,h.nat,h.stat,h.ranges,h.lsRed,h.dvRed,h.nb,h.net,h.ag,h.cd,h.pvRed⟩
theorem RtI.set_maps(h:RtI k r){l}(hl:LF (RMk k) k l):RtI k { r with maps:=l }:=⟨h.ifs,h.lists,hl,h.acls,h.nat,h.stat,h.ranges,h.lsRed,h.dvRed,h.nb,h.net,h.ag,h.cd,h.pvRed⟩
theorem RtI.set_acls(h:RtI k r){l}(hl:LF (ALk k) k l):RtI k { r with acls:=l }:=⟨h.ifs,h.lists,h.maps,hl,h.nat,h.stat,h.ranges,h.lsRed,h.dvRed,h.nb,h.net,h.ag,h.cd,h.pvRed⟩
theorem RtI.set_nat(h:RtI k r){l}(hl:LF (Tr.fit) k l):RtI k { r with nat:=l }:=⟨h.ifs,h.lists,h.maps,h.acls,hl,h.stat,h.ranges,h.lsRed,h.dvRed,h.nb,h.net,h.ag,h.cd,h.pvRed⟩
theorem RtI.set_stat(h:RtI k r){l}(hl:LF (Sr.fit) k l):RtI k { r with stat:=l }:=⟨h.ifs,h.lists,h.maps,h.acls,h.nat,hl,h.ranges,h.lsRed,h.dvRed,h.nb,h.net,h.ag,h.cd,h.pvRed⟩
theorem RtI.set_ranges(h:RtI k r){l}(hl:LF (AR.fit) k l):RtI k { r with ranges:=l }:=⟨h.ifs,h.lists,h.maps,h.acls,h.nat,h.stat,hl,h.lsRed,h.dvRed,h.nb,h.net,h.ag,h.cd,h.pvRed⟩
theorem RtI.set_lsRed(h:RtI k r){l}(hl:LF (Rd.fit) k l):RtI k { r with lsRed:=l }:=⟨h.ifs,h.lists,h.maps,h.acls,h.nat,h.stat,h.ranges,hl,h.dvRed,h.nb,h.net,h.ag,h.cd,h.pvRed⟩
theorem RtI.set_dvRed(h:RtI k r){l}(hl:LF (Rd.fit) k l):RtI k { r with dvRed:=l }:=⟨h.ifs,h.lists,h.maps,h.acls,h.nat,h.stat,h.ranges,h.lsRed,hl,h.nb,h.net,h.ag,h.cd,h.pvRed⟩
theorem RtI.set_nb(h:RtI k r){l}(hl:LF (Nb.fit) k l):RtI k { r with nb:=l }:=⟨h.ifs,h.lists,h.maps,h.acls,h.nat,h.stat,h.ranges,h.lsRed,h.dvRed,hl,h.net,h.ag,h.cd,h.pvRed⟩
theorem RtI.set_net(h:RtI k r){l}(hl:LF (Pf.fit) k l):RtI k { r with net:=l }:=⟨h.ifs,h.lists,h.maps,h.acls,h.nat,h.stat,h.ranges,h.lsRed,h.dvRed,h.nb,hl,h.ag,h.cd,h.pvRed⟩
theorem RtI.set_ag(h:RtI k r){l}(hl:LF (Ag.fit) k l):RtI k { r with ag:=l }:=⟨h.ifs,h.lists,h.maps,h.acls,h.nat,h.stat,h.ranges,h.lsRed,h.dvRed,h.nb,h.net,hl,h.cd,h.pvRed⟩
theorem RtI.set_cd(h:RtI k r){l}(hl:LF (Cd.fit) k l):RtI k { r with cd:=l }:=⟨h.ifs,h.lists,h.maps,h.acls,h.nat,h.stat,h.ranges,h.lsRed,h.dvRed,h.nb,h.net,h.ag,hl,h.pvRed⟩
theorem RtI.set_pvRed(h:RtI k r){l}(hl:LF (Rd.fit) k l):RtI k { r with pvRed:=l }:=⟨h.ifs,h.lists,h.maps,h.acls,h.nat,h.stat,h.ranges,h.lsRed,h.dvRed,h.nb,h.net,h.ag,h.cd,hl⟩
theorem RtI.same(h:RtI k r){r' : Rt}(e:(r'.ifs,r'.lists,r'.maps,r'.acls,r'.nat,r'.stat,r'.ranges,r'.lsRed,r'.dvRed,r'.nb,r'.net,r'.ag,r'.cd,r'.pvRed)=(r.ifs,r.lists,r.maps,r.acls,r.nat,r.stat,r.ranges,r.lsRed,r.dvRed,r.nb,r.net,r.ag,r.cd,r.pvRed)):RtI (k+1) r' := by
 simp only[Prod.mk.injEq]at e;obtain⟨e0,e1,e2,e3,e4,e5,e6,e7,e8,e9,e10,e11,e12,e13⟩:=e;exact⟨e0 ▸ h.up.ifs,e1 ▸ h.up.lists,e2 ▸ h.up.maps,e3 ▸ h.up.acls,e4 ▸ h.up.nat,e5 ▸ h.up.stat,e6 ▸ h.up.ranges,e7 ▸ h.up.lsRed,e8 ▸ h.up.dvRed,e9 ▸ h.up.nb,e10 ▸ h.up.net,e11 ▸ h.up.ag,e12 ▸ h.up.cd,e13 ▸ h.up.pvRed⟩
theorem ite_ok{c:Prop}[Decidable c]{a b:FmR}(ha:RtI k a.2.2.1)(hb:RtI k b.2.2.1):RtI k (if c then a else b).2.2.1:=by split;exact ha;exact hb
theorem new_lists(h:RtI k r)(x:List UInt8)(v:Value):RtI (k+1) { r with lists:=r.lists++[⟨x,v,[]⟩] }:=h.up.set_lists (LF.snoc (fit:=PLk (k+1)) (h.lists.imp' fun _ hl=>LF.up hl) (x:=⟨x,v,[]⟩) ⟨Nat.zero_le _,fun _ h=>by cases h⟩)
theorem new_maps(h:RtI k r)(x:List UInt8)(v:Value):RtI (k+1) { r with maps:=r.maps++[⟨x,v,[]⟩] }:=h.up.set_maps (LF.snoc (fit:=RMk (k+1)) (h.maps.imp' fun _ hl=>LF.up hl) (x:=⟨x,v,[]⟩) ⟨Nat.zero_le _,fun _ h=>by cases h⟩)
theorem new_acls(h:RtI k r)(x:List UInt8)(v:Value):RtI (k+1) { r with acls:=r.acls++[⟨x,v,[]⟩] }:=h.up.set_acls (LF.snoc (fit:=ALk (k+1)) (h.acls.imp' fun _ hl=>LF.up hl) (x:=⟨x,v,[]⟩) ⟨Nat.zero_le _,fun _ h=>by cases h⟩)
theorem z32:(0:Nat)<4294967296:=by decide
theorem ifF_ok(h:RtI k r){g:If→If}(hg:∀x,If.fit x→If.fit (g x)):RtI (k+1) (ifF g r):=h.up.set_ifs (h.ifs.last hg fun _ hx=>hx)
theorem plF_ok(h:RtI k r){x:PRule}(hx:x.fit):RtI (k+1) (plF x r):=h.up.set_lists (h.lists.last (fun _ hl=>LF.snoc hl hx) fun _ hl=>LF.up hl)
theorem clF_ok(h:RtI k r){g:Cl→Cl}:RtI (k+1) (clF g r):=h.up.set_maps (h.maps.last (fun _ hl=>LF.last hl (fun _ _=>trivial) fun _ _=>trivial) fun _ hl=>LF.up hl)
theorem ruF_ok(h:RtI k r){g:Ru→Ru}(hg:∀x,Ru.fit x→Ru.fit (g x)):RtI (k+1) (ruF g r):=h.up.set_acls (h.acls.last (fun _ hl=>LF.last hl hg fun _ hx=>hx) fun _ hl=>LF.up hl)
theorem stF_ok(h:RtI k r){g:Sr→Sr}(hg:∀x,Sr.fit x→Sr.fit (g x)):RtI (k+1) (stF g r):=h.up.set_stat (h.stat.last hg fun _ hx=>hx)
theorem nbF_ok(h:RtI k r){g:Nb→Nb}(hg:∀x,Nb.fit x→Nb.fit (g x)):RtI (k+1) (nbF' g r):=h.up.set_nb (h.nb.last hg fun _ hx=>hx)
theorem natF_fit(p:Ps):(natF p).1.fit:=by
 unfold natF
 repeat' split
 all_goals first|exact⟨adV_lt _,adV_lt _,z32,z32⟩|exact⟨z32,z32,adV_lt _,adV_lt _⟩|exact⟨z32,z32,z32,z32⟩
theorem fmS_ok(f:Fm)(blk:Bool)(h:RtI k r)(p:Ps):RtI (k+1) (fmS f blk r p).2.2.1:=by
 cases f;case redLS=>show RtI (k+1) (redF' _ _ r p).2.2.1;unfold redF';(repeat' refine ite_ok ?_ ?_);all_goals first|exact h.up|exact h.up.set_lsRed (h.lsRed.last (fun _ _=>trivial) fun _ _=>trivial)
 case redDV=>show RtI (k+1) (redF' _ _ r p).2.2.1;unfold redF';(repeat' refine ite_ok ?_ ?_);all_goals first|exact h.up|exact h.up.set_dvRed (h.dvRed.last (fun _ _=>trivial) fun _ _=>trivial)
 case redPV=>show RtI (k+1) (redF' _ _ r p).2.2.1;unfold redF';(repeat' refine ite_ok ?_ ?_);all_goals first|exact h.up|exact h.up.set_pvRed (h.pvRed.last (fun _ _=>trivial) fun _ _=>trivial)
 all_goals unfold fmS;dsimp only
 all_goals first|unfold topF|unfold zIc|unfold zIb|unfold zDy|unfold zGc|unfold zKg|unfold zCz|unfold rulesF|unfold ruleF|unfold zGl|unfold zMv|unfold zEr|unfold zDt|unfold zDv|unfold pathF|unfold zEc
 all_goals try unfold impS
 all_goals try dsimp only
 all_goals repeat' refine ite_ok ?_ ?_
 all_goals try dsimp only
 all_goals first
  |exact h.up
  |exact h.same rfl
  |exact ifF_ok h fun _ hx=>hx
  |exact ifF_ok h fun _ _=>hoV_lt _
  |exact plF_ok h (zJk _)
  |exact clF_ok h
  |exact ruF_ok h fun _ hx=>hx
  |exact ruF_ok h fun _ hx=>⟨(wiV_lt _).1,(wiV_lt _).2,hx.2.2.1,hx.2.2.2⟩
  |exact ruF_ok h fun _ hx=>⟨hx.1,hx.2.1,(wiV_lt _).1,(wiV_lt _).2⟩
  |exact stF_ok h fun _ hx=>hx
  |exact stF_ok h fun _ hx=>⟨hx.1,adV_lt _⟩
  |exact nbF_ok h fun _ hx=>hx
  |exact h.up.set_ifs (h.ifs.snoc z32)
  |exact new_lists h _ _
  |exact new_maps h _ _
  |exact new_acls h _ _
  |exact h.up.set_maps (h.maps.last (fun _ hl=>LF.snoc hl trivial) fun _ hl=>LF.up hl)
  |exact h.up.set_acls (h.acls.last (fun _ hl=>LF.snoc hl ⟨z32,(by decide),z32,(by decide)⟩) fun _ hl=>LF.up hl)
  |exact h.up.set_nat (h.nat.snoc (natF_fit _))
  |exact h.up.set_stat (h.stat.snoc ⟨zJk _,z32⟩)
  |exact h.up.set_ranges (h.ranges.snoc (zJk _))
  |exact h.up.set_lsRed (h.lsRed.snoc trivial)
  |exact h.up.set_dvRed (h.dvRed.snoc trivial)
  |exact h.up.set_pvRed (h.pvRed.snoc trivial)
  |exact h.up.set_nb (h.nb.snoc (adV_lt _))
  |exact h.up.set_net (h.net.snoc (zJk _))
  |exact h.up.set_ag (h.ag.snoc (zJk _))
  |(refine h.up.set_cd (h.cd.snoc ?_);exact⟨zJk _,zJk _⟩)
end
mutual
def Nd.size:Nd→Nat
 |.mk _ _ _ k=>1+sizeL k
def sizeL:List Nd→Nat
 |[]=>0
 |n :: ns=>n.size+sizeL ns
end
theorem RtI.le{k j:Nat}{r:Rt}(h:RtI k r)(hk:k≤j):RtI j r:=by
 induction hk with
 |refl=>exact h
 |step _ ih=>exact ih.up
mutual
theorem zLd(f:Fm):∀(ns:List Nd) (keys:List (List UInt8)) (r:Rt) (k:Nat),RtI k r→RtI (k+sizeL ns) (readN f keys ns r).1
 |[],_,_,_,h=>h
 |n :: ns,keys,r,k,h=>by
  have h1:=readOne_ok f n keys r k h;simp only[readN,sizeL]
  revert h1
  match zEz f keys n r with
  |(r', k', none)=>intro h1;have:=zLd f ns k' r' _ h1;rwa [Nat.add_assoc]at this
  |(r', _,some e)=>intro h1;exact h1.le (by omega)
theorem readOne_ok(f:Fm):∀(n:Nd) (keys:List (List UInt8)) (r:Rt) (k:Nat),RtI k r→RtI (k+n.size) (zEz f keys n r).1
 |.mk line words blk kids,keys,r,k,h=>by
  have h1:=fmS_ok f blk h ⟨words,false⟩;simp only[zEz,Nd.size]
  revert h1
  match fmS f blk r ⟨words,false⟩with
  |(key,inner,r', p)=>
   intro h1;have h2:RtI (k+(1+sizeL kids)) r' := RtI.le h1 (by omega);simp only;split
   ·exact h2
   ·split
    ·exact h2
    ·cases inner with
     |none=>exact h2
     |some g=>
      have:=zLd g kids [] r' _ h1
      rwa [Nat.add_assoc]at this
end
theorem rtN_ok:RtI 0 rtN:=⟨LF.nil,LF.nil,LF.nil,LF.nil,LF.nil,LF.nil,LF.nil,LF.nil,LF.nil,LF.nil,LF.nil,LF.nil,LF.nil,LF.nil⟩
def blks(rs:List Orow):List Nat:=rs.filterMap (·.v.ownBlock)
theorem zHr(a b:List Orow):blks (a++b)=blks a++blks b:=List.filterMap_append
def rowE{α:Type}(T:TypeId)(n:Nat)(cells:α→Array Value)(v:Value)(l:List α):Orow:=⟨T,n,v,l.length,l.flatMap fun x=>(cells x).toList⟩
theorem rowE_own{α:Type}{w:World}{B:Nat}{T:TypeId}{n:Nat}{cells:α→Array Value}{v:Value}{l:List α}:(rowE T n cells v l).own w B↔OwnE w B T n cells v l:=Iff.rfl
theorem OwnAll.swap{w w' : World}{B:Nat}{pre X X' post:List Orow}{rs:List Nat}(h:OwnAll w B (pre++X++post))(hf:Fr rs w w')(ho:OwnAll w' B X')(hn:∀k∈blks X', k∈blks X∨w.heap.size≤k)
  (hr:∀k∈rs,k∉blks pre∧k∉blks post):OwnAll w' B (pre++X' ++ post):=by
 have hd:=h.2;rw[List.filterMap_append,List.filterMap_append]at hd
 have hlt:∀k,k∈blks pre∨k∈blks post→k<w.heap.size:=by
  intro k hk;refine(OwnAll.lt h ?_).1;rw[List.filterMap_append,List.filterMap_append];rcases hk with hk|hk
  ·exact List.mem_append_left _ (List.mem_append_left _ hk)
  ·exact List.mem_append_right _ hk
 refine⟨fun r hr' => ?_,?_⟩
 ·rcases List.mem_append.1 hr' with h1|h1
  ·rcases List.mem_append.1 h1 with h2|h2
   ·exact Orow.own.fr (h.1 r (List.mem_append_left _ (List.mem_append_left _ h2))) hf (fun g hg hm=>(hr g hm).1 (List.mem_filterMap.2 ⟨r,h2,hg⟩))
   ·exact ho.1 r h2
  ·exact Orow.own.fr (h.1 r (List.mem_append_right _ h1)) hf (fun g hg hm=>(hr g hm).2 (List.mem_filterMap.2 ⟨r,h1,hg⟩))
 ·rw[List.filterMap_append,List.filterMap_append]
  have h1:=List.nodup_append.1 hd;have h2:=List.nodup_append.1 h1.1;refine List.nodup_append.2 ⟨List.nodup_append.2 ⟨h2.1,ho.2,fun a ha b hb e=>?_⟩,h1.2.1,fun a ha b hb e=>?_⟩
  ·subst e
   rcases hn a hb with hx|hx
   ·exact h2.2.2 a ha a hx rfl
   ·have:=hlt a (.inl ha);omega
  ·subst e
   rcases List.mem_append.1 ha with ha|ha
   ·exact h1.2.2 a (List.mem_append_left _ ha) a hb rfl
   ·rcases hn a ha with hx|hx
    ·exact h1.2.2 a (List.mem_append_right _ hx) a hb rfl
    ·have:=hlt a (.inr hb);omega
def rP(x:PList):Orow:=rowE 136 5 PRule.C x.v x.rules
def rM(x:RMap):Orow:=rowE 138 7 Cl.C x.v x.clauses
def rA(x:AList):Orow:=rowE 144 10 Ru.C x.v x.rules
def btR(r:Rt):List Orow :=
 rowE 72 12 If.C r.ifsV r.ifs :: rowE 74 9 Tr.C r.natV r.nat :: rowE 78 7 Sr.C r.statV r.stat :: rowE 147 3 AR.C r.rangesV r.ranges :: rowE 230 5 Rd.C r.lsRedV r.lsRed :: rowE 230 5 Rd.C r.dvRedV r.dvRed :: rowE 149 4 Nb.C r.nbV r.nb :: rowE 76 2 Pf.C r.netV r.net :: rowE 151 3 Ag.C r.agV r.ag :: rowE 153 5 Cd.C r.cdV r.cd :: rowE 230 5 Rd.C r.pvRedV r.pvRed ::
 rowE 81 2 PList.C r.listsV r.lists :: rowE 84 2 RMap.C r.mapsV r.maps :: rowE 87 2 AList.C r.aclsV r.acls :: (r.lists.map rP++(r.maps.map rM++r.acls.map rA))
abbrev Kept:=List (Nat × Obj)
structure BR (g B:Nat) (w0:World) (r:Rt) (K:Kept) (w:World):Prop where
 has:HasC 124 g r.C w
 own:OwnAll w B (btR r)
 bel:Below B w0 w
 bB:B≤w0.heap.size
 gB:B≤g
 gr:g∉blks (btR r)
 keep:∀k∈K,w.heap[k.1]? = some k.2∧k.1≠g∧k.1∉blks (btR r)
structure BW (g B:Nat) (w0:World) (r:Rt) (K:Kept) (T:TypeId × Bool) (b:Nat) (p:Ps) (w:World):Prop extends BR g B w0 r K w where
 st:WSt T b B p w
 gb:g≠b
 br:b∉blks (btR r)
 kb:∀k∈K,k.1≠b
section
variable {g b B : Nat} {w0 w w' : World} {r r' : Rt} {K K' : Kept} {T : TypeId × Bool} {p p' : Ps} {pre X X' post : List Orow}
theorem BR.size(h:BR g B w0 r K w):w0.heap.size≤w.heap.size:=h.bel.size
theorem BR.lt(h:BR g B w0 r K w):g<w.heap.size:=zBj h.has
theorem BR.blt(h:BR g B w0 r K w){k:Nat}(hk:k∈blks (btR r)):k<w.heap.size∧B≤k:=OwnAll.lt h.own hk
theorem BR.env(h:BR g B w0 r K w)(he:EnvA B w0):EnvA B w:=he.keep h.bel
theorem BR.cell(h:BR g B w0 r K w)(j:Nat):w.cell? ⟨g,j,none⟩=r.C[j]?:=h.has.cell j
theorem BR.frz(h:BR g B w0 r K w)(j:Nat):w.frozen? ⟨g,j,none⟩=false:=h.has.frz j
theorem BR.less(h:BR g B w0 r K w)(hk:∀k∈K', k∈K):BR g B w0 r K' w:=⟨h.has,h.own,h.bel,h.bB,h.gB,h.gr,fun k hx=>h.keep k (hk k hx)⟩
theorem BW.less(h:BW g B w0 r K T b p w)(hk:∀k∈K', k∈K):BW g B w0 r K' T b p w:=⟨h.toBR.less hk,h.st,h.gb,h.br,fun k hx=>h.kb k (hk k hx)⟩
theorem zHb{a c:List Orow}(h:a.Perm c){k:Nat}:k∈blks a↔k∈blks c:=(h.filterMap _).mem_iff
theorem BW.turn(h:BW g B w0 r K T b p w)(e:(btR r).Perm (X++post))(e' : (btR r').Perm (X' ++ post))(hf:Fr (g :: b :: blks X) w w')(hh:HasC 124 g r'.C w')(hs:WSt T b B p' w')(ho:OwnAll w' B X')
  (hn:∀k∈blks X', k∈blks X∨w.heap.size≤k):BW g B w0 r' K T b p' w' := by
 have hw:=h.size;have hB:=h.bB;have hgr:=h.gr;have hbr:=h.br;have hown:=h.own.perm e.symm;rw[zHb e,zHr]at hgr hbr;have hd:=hown.2;rw[List.filterMap_append]at hd;have hX:∀k∈blks X,k∈blks (btR r):=fun k hk=>by rw[zHb e,zHr];exact List.mem_append_left _ hk
 have hgB:=h.gB;have hbB:=h.st.1;have hgl:=h.lt;have hbl:=h.st.lt
 have hout:∀k,k∉blks (btR r)→k<w.heap.size→k∉blks (btR r'):=by
  intro k hk hl hm;rw[zHb e', zHr]at hm;rw[zHb e,zHr]at hk;rcases List.mem_append.1 hm with hm|hm
  ·rcases hn _ hm with e|e
   ·exact hk (List.mem_append_left _ e)
   ·omega
  ·exact hk (List.mem_append_right _ hm)
 refine⟨⟨hh,?_,h.bel.trans (hf.below (fun k hk=>?_) (by omega)),h.bB,h.gB,hout g h.gr hgl,fun k hk=>?_⟩,hs,h.gb,hout b h.br hbl,h.kb⟩
 ·refine OwnAll.perm ?_ e'
  refine OwnAll.swap (pre:=[]) hown hf ho hn (fun k hk=>⟨List.not_mem_nil,?_⟩);rcases List.mem_cons.1 hk with e1|hk
  ·subst e1
   exact fun hm=>hgr (List.mem_append_right _ hm)
  rcases List.mem_cons.1 hk with e1|hk
  ·subst e1
   exact fun hm=>hbr (List.mem_append_right _ hm)
  ·exact fun hm=>(List.nodup_append.1 hd).2.2 k hk k hm rfl
 ·rcases List.mem_cons.1 hk with e1|hk
  ·omega
  rcases List.mem_cons.1 hk with e1|hk
  ·omega
  ·exact(h.blt (hX k hk)).2
 ·obtain⟨k1,k2,k3⟩:=h.keep k hk
  refine⟨(hf.block k.1 (zBj k1) (fun hm=>?_)).trans k1,k2,hout k.1 k3 (zBj k1)⟩;rcases List.mem_cons.1 hm with e1|hm
  ·exact k2 e1
  rcases List.mem_cons.1 hm with e1|hm
  ·exact h.kb k hk e1
  ·exact k3 (hX _ hm)
theorem BW.turn0(h:BW g B w0 r K T b p w)(e:btR r' = btR r)(hf:Fr [g,b] w w')(hh:HasC 124 g r'.C w')(hs:WSt T b B p' w'):BW g B w0 r' K T b p' w' :=
 h.turn (X:=[]) (X' := []) (post:=btR r) (List.Perm.refl _) (by rw[e];exact List.Perm.refl _) hf hh hs ⟨fun _ h=>(by cases h),List.nodup_nil⟩ (fun _ h=>by cases h)
theorem BW.word(h:BW g B w0 r K T b p w)(hs:WSt T b B p' w')(hg:w.grownBy w' (some b)):BW g B w0 r K T b p' w' :=
 h.turn0 rfl (Fr.ofOne hg (by simp)) (h.has.grown hg (fun e=>h.gb (by injection e))) hs
theorem BW.put(h:BW g B w0 r K T b p w)(j:Nat)(v:Value)(e:r.C.setIfInBounds j v=r'.C)(eb:btR r' = btR r):BW g B w0 r' K T b p (w.setCell ⟨g,j,none⟩ v) :=
 h.turn0 eb (Fr.set w (by simp) j v) (by rw[←e];exact Lib.heap_setCell_same (i:=j) h.has v) (h.st.other (zBb w g j v) (fun k hk=>by cases hk;exact⟨h.gB,h.gb⟩))
theorem BW.on(h:BW g B w0 r K T b p w)(hb:Below w.heap.size w w'):BW g B w0 r K T b p w' := h.turn0 rfl (Fr.of_below hb) (h.has.keep hb) (h.st.keep hb)
theorem BW.bad(h:BW g B w0 r K T b p w):BW g B w0 r K T b p.fail (w.setCell ⟨b,2,none⟩ (.bool true)):=h.word h.st.failed.1 h.st.failed.2
theorem BW.box(h:BW g B w0 r K T b p w)(o:Obj):BW g B w0 r ((w.heap.size,o) :: K) T b p (w.alloc o):=by
 have hb:Below w.heap.size w (w.alloc o):=(Below.refl _ w).alloc (yI _) o;have h1:=h.on hb;refine⟨⟨h1.has,h1.own,h1.bel,h1.bB,h1.gB,h1.gr,fun k hk=>?_⟩,h1.st,h1.gb,h1.br,fun k hk=>?_⟩
 ·rcases List.mem_cons.1 hk with rfl|hk
  ·exact⟨heap_alloc_new w o,Nat.ne_of_gt h.lt,fun hm=>Nat.lt_irrefl _ (h.blt hm).1⟩
  ·exact h1.keep k hk
 ·rcases List.mem_cons.1 hk with rfl|hk
  ·exact Nat.ne_of_gt h.st.lt
  ·exact h1.kb k hk
end
structure Ck (E:TypeId) (g o:Nat) (cur:Array Value) (T:TypeId × Bool) (b B:Nat) (K:Kept) (w0:World) (cs:Array Value) (p:Ps) (w:World):Prop where
 part:Part E g o cur cs w
 st:WSt T b B p w
 fr:Fr [g,b] w0 w
 gb:g≠b
 gB:B≤g
 bB:B≤w0.heap.size
 keep:∀k∈K,w.heap[k.1]? = some k.2∧k.1≠g∧k.1≠b
section
variable {E U : TypeId} {T : TypeId × Bool} {g o b B k : Nat} {cur cs : Array Value} {p p' : Ps} {w0 w w' : World} {K : Kept} {v : Value} {x : Nat × Obj}
theorem Ck.fr1(h:Ck E g o cur T b B K w0 cs p w)(hf:Fr [g,b] w w'):∀k∈K,w'.heap[k.1]? = some k.2∧k.1≠g∧k.1≠b:=fun k hk=>by
 obtain⟨h1,h2,h3⟩:=h.keep k hk;refine⟨(hf.block k.1 (zBj h1) (fun hm=>?_)).trans h1,h2,h3⟩;simp only[List.mem_cons,List.not_mem_nil,or_false]at hm;exact hm.elim h2 h3
theorem Ck.put(h:Ck E g o cur T b B K w0 cs p w){cs' : Array Value}{j:Nat}(hj:j<cs.size)(v:Value)(e:cs.setIfInBounds j v=cs'):Ck E g o cur T b B K w0 cs' p (w.setCell ⟨g,o+j,none⟩ v) :=
 ⟨h.part.put hj v e,h.st.other (zBb w g (o+j) v) (fun k hk=>by cases hk;exact⟨h.gB,h.gb⟩),h.fr.trans (Fr.set w (by simp) _ _),h.gb,h.gB,h.bB,h.fr1 (Fr.set w (by simp) _ _)⟩
theorem Ck.word(h:Ck E g o cur T b B K w0 cs p w)(hs:WSt T b B p' w')(hg:w.grownBy w' (some b)):Ck E g o cur T b B K w0 cs p' w' :=
 ⟨h.part.frame hg (fun e=>h.gb (by injection e with e;exact e.symm)),hs,h.fr.trans (Fr.ofOne hg (by simp)),h.gb,h.gB,h.bB,h.fr1 (Fr.ofOne hg (by simp))⟩
theorem Ck.drew(h:Ck E g o cur T b B K w0 cs p w):Ck E g o cur T b B K w0 cs p w.drew:=⟨h.part,h.st,h.fr.trans (Fr.of_below ⟨rfl,rfl,rfl,yI _,fun _ _=>rfl⟩),h.gb,h.gB,h.bB,h.keep⟩
theorem zAw{W:World}{q j:Nat}{u v:Value}(hq:k≠q)(hc:W.cell? ⟨k,0,none⟩=some u):(W.setCell ⟨q,j,none⟩ v).cell? ⟨k,0,none⟩=some u :=
 (zBb W q j v).cell (a:=⟨k,0,none⟩) hc (fun e=>hq (by injection e))
theorem Ck.bad(h:Ck E g o cur T b B K w0 cs p w):Ck E g o cur T b B K w0 cs p.fail (w.setCell ⟨b,2,none⟩ (.bool true)):=h.word h.st.failed.1 h.st.failed.2
theorem Ck.cell(h:Ck E g o cur T b B K w0 cs p w){j:Nat}(hj:j<cs.size):∃v,w.cell? ⟨g,o+j,none⟩=some v:=⟨cs[j],by rw[h.part.cell hj,Array.getElem?_eq_getElem hj]⟩
theorem Ck.frz(h:Ck E g o cur T b B K w0 cs p w)(j:Nat):w.frozen? ⟨g,o+j,none⟩=false:=h.part.frz _
theorem Ck.env(h:Ck E g o cur T b B K w0 cs p w)(he:EnvA B w0):EnvA B w :=
 he.keep (h.fr.below (fun k hk=>by
  have hb:=h.st.1;have hg:=h.gB;simp only[List.mem_cons,List.not_mem_nil,or_false]at hk
  rcases hk with rfl|rfl<;>assumption) h.bB)
theorem Ck.kc(h:Ck E g o cur T b B ((k,.cells #[v] U (0,0)) :: K) w0 cs p w):w.cell? ⟨k,0,none⟩=some v:=by
 rw[Lib.cell_of_heap (h.keep _ List.mem_cons_self).1];rfl
theorem Ck.kc2(h:Ck E g o cur T b B (x :: (k,.cells #[v] U (0,0)) :: K) w0 cs p w):w.cell? ⟨k,0,none⟩=some v:=by
 rw[Lib.cell_of_heap (h.keep _ (List.mem_cons_of_mem _ List.mem_cons_self)).1];rfl
end
def FPost{α:Type}(F:Rt→Ps→FmR)(mk:(α→α)→Rt→Rt)(C:α→Array Value)(x:α)(E:TypeId)(g o:Nat)(cur:Array Value)(T:TypeId × Bool)(b B:Nat)(K:Kept)(w0:World)(p:Ps)(e:Ending)(w:World):Prop :=
 ∃key f p', (∀r,F r p=(key,none,mk f r,p'))∧e=.returned (.tuple #[strV key,.nilFunc])∧Ck E g o cur T b B K w0 (C (f x)) p' w
theorem zFt{α:Type}:∀l:List α,lastF (fun x=>x) l=l
 |[]=>rfl
 |[_]=>rfl
 |x :: y :: r=>by
  rw[lastF]
  ·rw[zFt (y :: r)]
  ·intro h;cases h
theorem ifF_id(r:Rt):ifF (fun x=>x) r=r:=by unfold ifF;rw[zFt]
theorem map_id_last{α:Type}(f:α→α)(hf:∀x,f x=x)(l:List α):lastF f l=l:=by
 obtain rfl:f=fun x=>x:=funext hf
 exact zFt l
theorem clF_id(r:Rt):clF (fun x=>x) r=r:=by unfold clF;rw[map_id_last _ (fun m=>by rw[zFt])]
theorem ruF_id(r:Rt):ruF (fun x=>x) r=r:=by unfold ruF;rw[map_id_last _ (fun m=>by rw[zFt])]
theorem stF_id(r:Rt):stF (fun x=>x) r=r:=by unfold stF;rw[zFt]
theorem nbF_id(r:Rt):nbF' (fun x=>x) r=r:=by unfold nbF';rw[zFt]
theorem short_opt{p:Ps}(x:List UInt8)(h:p.short):(optS x p).short:=by
 unfold optS;split
 ·exact fun f hf=>h f (List.mem_of_mem_tail hf)
 ·exact h
theorem zBs{p:Ps}(h:p.short):(wS p).short:=by
 obtain⟨fs,bad⟩:=p;cases fs with
 |nil=>exact h
 |cons f r=>exact fun x hx=>h x (List.mem_cons_of_mem _ hx)
theorem zGp{p:Ps}(c:Bool)(h:p.short):(mustS c p).short:=by
 unfold mustS;split<;>exact h
theorem short_px{p:Ps}(h:p.short):(pxS p).short:=zGp _ (zBs h)
theorem zMu{p:Ps}(h:p.short):(adS p).short:=zGp _ (zBs h)
theorem short_nm{p:Ps}(h:p.short):(nmS p).short:=zGp _ (zBs h)
theorem short_no{p:Ps}(lo hi:Int)(h:p.short):(noS lo hi p).short:=zGp _ (zBs h)
theorem zIx{p:Ps}(a c:List UInt8)(h:p.short):(chS a c p).short:=zGp _ (zBs h)
def Rt.plain(r:Rt):Rt:={ r with ifsV:=.slice none 0 0,listsV:=.slice none 0 0,mapsV:=.slice none 0 0,aclsV:=.slice none 0 0,natV:=.slice none 0 0,statV:=.slice none 0 0,rangesV:=.slice none 0 0,lsRedV:=.slice none 0 0,dvRedV:=.slice none 0 0,nbV:=.slice none 0 0,netV:=.slice none 0 0,agV:=.slice none 0 0,cdV:=.slice none 0 0,pvRedV:=.slice none 0 0,lists:=r.lists.map (fun x=>⟨x.name,.slice none 0 0,x.rules⟩),maps:=r.maps.map (fun x=>⟨x.name,.slice none 0 0,x.clauses⟩),acls:=r.acls.map (fun x=>⟨x.name,.slice none 0 0,x.rules⟩) }
section
variable {k : Nat} {r : Rt}
theorem lenL(r:Rt):r.plain.lists.length=r.lists.length:=List.length_map _
theorem lenM(r:Rt):r.plain.maps.length=r.maps.length:=List.length_map _
theorem lenA(r:Rt):r.plain.acls.length=r.acls.length:=List.length_map _
theorem rulesL(h:RtI k r.plain){x:PList}(hx:x∈r.lists):x.rules.length≤k∧∀y∈x.rules,y.fit :=
 h.lists.2 ⟨x.name,.slice none 0 0,x.rules⟩ (List.mem_map.2 ⟨x,hx,rfl⟩)
theorem rulesA(h:RtI k r.plain){x:AList}(hx:x∈r.acls):x.rules.length≤k∧∀y∈x.rules,y.fit :=
 h.acls.2 ⟨x.name,.slice none 0 0,x.rules⟩ (List.mem_map.2 ⟨x,hx,rfl⟩)
theorem rulesM(h:RtI k r.plain){x:RMap}(hx:x∈r.maps):x.clauses.length≤k :=
 (h.maps.2 ⟨x.name,.slice none 0 0,x.clauses⟩ (List.mem_map.2 ⟨x,hx,rfl⟩)).1
end
theorem zDb{α:Type}(f:α→α)(x:α):∀l:List α,lastF f (l++[x])=l++[f x]
 |[]=>rfl
 |[y]=>rfl
 |y :: z :: r=>by
  have ih:=zDb f x (z :: r);show lastF f (y :: (z :: r++[x]))=y :: (z :: r++[f x]);rw[←ih];rfl
theorem setAtL_snoc{α:Type}(l:List α)(x y:α):zMe (l++[x]) l.length y=l++[y]:=by
 unfold zMe;simp
def ElV{α:Type}(F:Nat)(U:TypeId)(n:Nat)(v:Value)(l:List α)(K:Kept)(fv:Value):Prop :=
 ∃gg cap l0 x k,l=l0++[x]∧v=.slice (some ⟨gg,0,none⟩) (l0.length+1) cap∧fv=.func (.func F) #[] #[.pointer (some ⟨k,0,none⟩)]∧(k,.cells #[.pointer (some ⟨gg,l0.length*n,none⟩)] U (0,0))∈K
def PtV(F:Nat)(U:TypeId)(q:Addr)(K:Kept)(fv:Value):Prop:=∃k,fv=.func (.func F) #[] #[.pointer (some ⟨k,0,none⟩)]∧(k,.cells #[.pointer (some q)] U (0,0))∈K
def RdV(typed:Bool)(v:Value)(l:List Rd)(K:Kept)(fv:Value):Prop :=
 ∃gg cap l0 x k k2,l=l0++[x]∧v=.slice (some ⟨gg,0,none⟩) (l0.length+1) cap∧fv=.func (.func 273) #[] #[.pointer (some ⟨k,0,none⟩),.pointer (some ⟨k2,0,none⟩)] ∧
  (k,.cells #[.pointer (some ⟨gg,l0.length*5,none⟩)] 301 (0,0))∈K∧(k2,.cells #[.bool typed] 4 (0,0))∈K
def FmV(f:Fm)(g:Nat)(r:Rt)(K:Kept)(fv:Value):Prop:=match f with
 |.top=>fv=.func (.func 68) #[.pointer (some ⟨g,0,none⟩)] #[]
 |.system=>fv=.func (.func 137) #[.pointer (some ⟨g,0,none⟩)] #[]
 |.interfaces=>fv=.func (.func 138) #[.pointer (some ⟨g,0,none⟩)] #[]
 |.translations=>fv=.func (.func 146) #[.pointer (some ⟨g,0,none⟩)] #[]
 |.statics=>fv=.func (.func 147) #[.pointer (some ⟨g,0,none⟩)] #[]
 |.iface=>ElV 246 211 12 r.ifsV r.ifs K fv
 |.prefixRules=>ElV 202 189 2 r.listsV r.lists K fv
 |.clauses=>ElV 206 193 2 r.mapsV r.maps K fv
 |.rules=>ElV 209 197 2 r.aclsV r.acls K fv
 |.clause=>∃m0 m,r.maps=m0++[m]∧ElV 249 216 7 m.v m.clauses K fv
 |.rule=>∃m0 m,r.acls=m0++[m]∧ElV 250 218 10 m.v m.rules K fv
 |.static=>ElV 255 227 7 r.statV r.stat K fv
 |.neighbor=>ElV 259 272 4 r.nbV r.nb K fv
 |.linkState=>PtV 215 202 ⟨g,8,none⟩ K fv
 |.distance=>PtV 217 204 ⟨g,12,none⟩ K fv
 |.path=>PtV 218 206 ⟨g,17,none⟩ K fv
 |.redLS=>RdV true r.lsRedV r.lsRed K fv
 |.redDV=>RdV false r.dvRedV r.dvRed K fv
 |.redPV=>RdV false r.pvRedV r.pvRed K fv
def Stay(r r' : Rt):Prop:=r'.listsV=r.listsV∧r'.lists.length=r.lists.length∧r'.mapsV=r.mapsV∧r'.maps.length=r.maps.length∧r'.aclsV=r.aclsV∧r'.acls.length=r.acls.length
theorem Stay.refl(r:Rt):Stay r r:=⟨rfl,rfl,rfl,rfl,rfl,rfl⟩
theorem Stay.trans{r r' r'' : Rt}(h:Stay r r')(h' : Stay r' r''):Stay r r'' :=
 ⟨h'.1.trans h.1,h'.2.1.trans h.2.1,h'.2.2.1.trans h.2.2.1,h'.2.2.2.1.trans h.2.2.2.1,h'.2.2.2.2.1.trans h.2.2.2.2.1,h'.2.2.2.2.2.trans h.2.2.2.2.2⟩
theorem snoc_of{α:Type}{l l' : List α}(h:l'.length=l.length){l0:List α}{x:α}(e:l=l0++[x]):∃l1 y,l' = l1++[y]∧l1.length=l0.length:=by
 subst e;rcases List.eq_nil_or_concat l' with rfl|⟨l1,y,rfl⟩
 ·simp at h
 ·exact⟨l1,y,by simp,by simpa using h⟩
theorem ElV.stay{α:Type}{F n:Nat}{U:TypeId}{v v' : Value}{l l' : List α}{K K' : Kept}{fv:Value}(h:ElV F U n v l K fv)(hv:v' = v)(hl:l'.length=l.length)(hK:∀k∈K,k∈K'):ElV F U n v' l' K' fv:=by
 obtain⟨gg,cap,l0,x,k,e1,e2,e3,e4⟩:=h;obtain⟨l1,y,e5,e6⟩:=snoc_of hl e1;exact⟨gg,cap,l1,y,k,e5,by rw[hv,e6];exact e2,e3,by rw[e6];exact hK _ e4⟩
def Fm.outer:Fm→Bool
 |.top|.interfaces|.clauses|.rules|.statics|.linkState|.distance|.path=>true
 |_=>false
theorem FmV.stay{f:Fm}{g:Nat}{r r' : Rt}{K K' : Kept}{fv:Value}(h:FmV f g r K fv)(ho:f.outer=true)(hs:Stay r r')(hK:∀k∈K,k∈K'):FmV f g r' K' fv:=by
 cases f<;>first|cases ho;done|skip
 ·exact h
 ·exact h
 ·exact ElV.stay h hs.2.2.1 hs.2.2.2.1 hK
 ·exact ElV.stay h hs.2.2.2.2.1 hs.2.2.2.2.2 hK
 ·exact h
 all_goals
  obtain⟨k,e1,e2⟩:=h;exact⟨k,e1,hK _ e2⟩
def InnV(f:Fm)(inner:Option Fm)(iv:Value)(g:Nat)(r:Rt)(K:Kept):Prop:=match inner with
 |none=>iv=.nilFunc
 |some h=>h≠.top∧f.outer=true∧FmV h g r K iv
def FormP(f:Fm)(fv:Value)(g B:Nat)(w0:World)(r:Rt)(K:Kept)(T:TypeId × Bool)(b:Nat)(p:Ps)(_:World)(e:Ending)(w' : World):Prop :=
 ∃key inner r' p' K' iv,fmS f T.2 r.plain p=(key,inner,r'.plain,p')∧e=.returned (.tuple #[strV key,iv])∧BW g B w0 r' (K' ++ K) T b p' w' ∧ (f≠.top→Stay r r')∧(∀K0,FmV f g r K0 fv→FmV f g r' K0 fv)∧InnV f inner iv g r' K' ∧∀k∈K',∃cs E,k.2=.cells cs E (0,0)
theorem ElV.mono{α:Type}{F n:Nat}{U:TypeId}{v:Value}{l:List α}{K K' : Kept}{fv:Value}(h:ElV F U n v l K fv)(hK:∀k∈K,k∈K'):ElV F U n v l K' fv:=h.stay rfl rfl hK
theorem FmV.mono{f:Fm}{g:Nat}{r:Rt}{K K' : Kept}{fv:Value}(h:FmV f g r K fv)(hK:∀k∈K,k∈K'):FmV f g r K' fv:=by
 cases f
 all_goals first
  |exact h
  |exact ElV.mono h hK
  |(obtain⟨k,e1,e2⟩:=h;exact⟨k,e1,hK _ e2⟩)
  |(obtain⟨m0,m,e,h⟩:=h;exact⟨m0,m,e,ElV.mono h hK⟩)
  |(obtain⟨gg,cap,l0,x,k,k2,e1,e2,e3,e4,e5⟩:=h;exact⟨gg,cap,l0,x,k,k2,e1,e2,e3,hK _ e4,hK _ e5⟩)
abbrev EG(F:Nat):Prop:=∀args w,(callFunc F args).run Tryz.prog w=.ok (.enter F args) w
section
variable {α : Type} {E : TypeId} {n gg cap g B b : Nat} {C : α → Array Value} {v : Value} {l0 : List α} {x : α} {K K0 : Kept} {w0 w : World} {r : Rt} {T : TypeId × Bool} {p : Ps} {pre post : List Orow}
theorem BW.last(h:BW g B w0 r K T b p w)(e:btR r=pre++rowE E n C v (l0++[x]) :: post)(hv:v=.slice (some ⟨gg,0,none⟩) (l0.length+1) cap)(hn:0<n)(hl:∀x,(C x).toList.length=n)(hK:∀k∈K0,k∈K) :
  ∃cur,Ck E gg (l0.length*n) cur T b B K0 w (C x) p w∧∀(y:α) (p' : Ps) (w' : World) (r' : Rt),Ck E gg (l0.length*n) cur T b B K0 w (C y) p' w' → r'.C=r.C→btR r' = pre++rowE E n C v (l0++[y]) :: post→BW g B w0 r' K T b p' w' := by
 have ho:OwnE w B E n C v (l0++[x]):=h.own.1 (rowE E n C v (l0++[x])) (by rw[e];simp);obtain⟨g', cap', cur,e1,hgB,hp,hs⟩:=ho.part hn hl (k:=l0.length) (by simp);rw[hv]at e1;injection e1 with e1 _ e3
 injection e1 with e1
 injection e1 with e1 _ _
 subst e1;have hx:(l0++[x])[l0.length]'(by simp)=x:=by simp
 rw[hx]at hp
 have hgg:gg∈blks (btR r):=by
  rw[e];exact List.mem_filterMap.2 ⟨rowE E n C v (l0++[x]),by simp,by rw[hv];rfl⟩
 have hgne:gg≠g:=fun e1=>h.gr (e1 ▸ hgg)
 have hbne:gg≠b:=fun e1=>h.br (e1 ▸ hgg)
 refine⟨cur,⟨hp,h.st,Fr.refl _ _,hbne,hgB,yJ h.bB h.size,fun k hk=>⟨(h.keep k (hK k hk)).1,fun e1=>(h.keep k (hK k hk)).2.2 (e1 ▸ hgg),h.kb k (hK k hk)⟩⟩,?_⟩;intro y p' w' r' hc eC eR;have hset:=hs w' y hc.part.1;rw[setAtL_snoc]at hset;have hbv:v.ownBlock=some gg:=by rw[hv];rfl
 refine h.turn (X:=[rowE E n C v (l0++[x])]) (X' := [rowE E n C v (l0++[y])]) (post:=pre++post) (by rw[e];exact List.perm_middle) (by rw[eR];exact List.perm_middle) (hc.fr.mono (fun k hk=>?_)) ?_ hc.st ⟨fun o ho' => ?_,?_⟩ (fun k hk=>.inl hk)
 ·simp only[List.mem_cons,List.not_mem_nil,or_false]at hk
  rcases hk with rfl|rfl
  ·exact List.mem_cons_of_mem _ (List.mem_cons_of_mem _ (List.mem_filterMap.2 ⟨rowE E n C v (l0++[x]),by simp,hbv⟩))
  ·simp
 ·rw[eC]
  refine HasC.fr h.has hc.fr (fun hm=>?_);simp only[List.mem_cons,List.not_mem_nil,or_false]at hm;exact hm.elim (fun e1=>hgne e1.symm) (fun e1=>h.gb e1)
 ·obtain rfl:=List.mem_singleton.1 ho'
  exact hset
 ·rw[List.filterMap_cons];split<;>simp
end
end Go.Proofs.YtdlgnhefpoalnaaGreatDoor
