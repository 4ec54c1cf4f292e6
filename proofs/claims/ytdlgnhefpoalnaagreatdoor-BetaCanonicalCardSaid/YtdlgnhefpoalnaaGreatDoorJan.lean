/- The contracts of all of beta's forms. Conditions: as FormC says. -/
import Derived.Test.YtdlgnhefpoalnaaGreatDoorJam
set_option maxRecDepth 8000
set_option maxHeartbeats 8000000
namespace Go.Proofs.YtdlgnhefpoalnaaGreatDoor
open Lib (hid)
open Go.RowKit
theorem distance_form:FormC .distance:=by
 intro g B b k w0 w r K kb p fv h hf he hs hr hk
 obtain ⟨q,rfl,e4⟩:=hf
 refine ⟨217,#[],#[.pointer (some ⟨q,0,none⟩)],rfl,enters_of Tryz.func217 (by kernel_rfl) rfl,?_⟩
 show Calls Tryz.prog 217 #[.pointer (some ⟨b,0,none⟩),.pointer (some ⟨q,0,none⟩)] w _
 have HQ:=hid e4
 have HKG:q≠g:=(h.keep _ e4).2.1
 clear e4
 have H:=hid h
 have HE:=hid he
 have HS:=hid hs
 have HR:=hid hr
 have HK:=hid hk
 clear h he hs hr hk
 have q0:((str (wV p)).toList == [112,114,101,102,101,114,101,110,99,101]) = (wV p == [112,114,101,102,101,114,101,110,99,101]):=by rw [zAb]
 have q1:((str (wV p)).toList == [105,110,112,117,116]) = (wV p == [105,110,112,117,116]):=by rw [zAb]
 have q2:((str (wV p)).toList == [111,117,116,112,117,116]) = (wV p == [111,117,116,112,117,116]):=by rw [zAb]
 have q3:((str (wV p)).toList == [105,109,112,111,114,116]) = (wV p == [105,109,112,111,114,116]):=by rw [zAb]
 go_enter Tryz.func217,Tryz.ntmps217
 go_wp2_with fail
 refine (zBl b B p _ H.out.st).mono ?_
 rintro e w1 ⟨rfl,h1,k1⟩
 have H1:=hid (H.out.word h1 k1)
 clear h1 k1
 unfold strV
 cases e0:(wV p == [112,114,101,102,101,114,101,110,99,101]) with
 | true =>
  rw [e0] at q0
  have E:Hid (zDi kb r.plain p = (wV p,none,({ r with dvAdmin:=noV 1 255 (wS p) }:Rt).plain,noS 1 255 (wS p))):=hid (by unfold zDi; rw [e0]; rfl)
  have ck:=H1.out.kc HQ.out
  go_wp2_with fail
  have D2:=hid H1.out.drew
  go_region_held3 (fun w' => w'.cell? ⟨q,0,none⟩ = some (.pointer (some ⟨g,12,none⟩))) (first | assumption | with_reducible exact D2.out.kc HQ.out | with_reducible exact H2.out.kc HQ.out | ((repeat with_reducible refine zAp HKG ?_); first | assumption | with_reducible exact H2.out.kc HQ.out)) (((with_reducible refine (zAn b B (wS p) 1 255 _ D2.out.st).mono ?_); rintro e w2 ⟨rfl,h2,k2⟩; have H2:=hid (D2.out.word h2 k2); clear h2 k2; obtain ⟨y13,c13⟩:=H2.out.toBR.cellx 13 (by decide); have fz:=H2.out.toBR.frz))
  go_wp2_with fail
  go_ret2
  exact ⟨_,none,{ r with dvAdmin:=noV 1 255 (wS p) },_,[],.nilFunc,E.out,rfl,(H2.out.put 13 _ rfl rfl),fun _ => ⟨rfl,rfl,rfl,rfl,rfl,rfl⟩,fun _ q => q,rfl,fun _ h => by cases h⟩
 | false =>
  rw [e0] at q0
  cases e1:(wV p == [105,110,112,117,116]) with
  | true =>
   rw [e1] at q1
   have E:Hid (zDi kb r.plain p = (wV p,none,({ r with dvIn:=nmV (wS p) }:Rt).plain,nmS (wS p))):=hid (by unfold zDi; rw [e0,e1]; rfl)
   have ck:=H1.out.kc HQ.out
   go_wp2_with fail
   have D2:=hid H1.out.drew
   go_region_held3 (fun w' => w'.cell? ⟨q,0,none⟩ = some (.pointer (some ⟨g,12,none⟩))) (first | assumption | with_reducible exact D2.out.kc HQ.out | with_reducible exact H2.out.kc HQ.out | ((repeat with_reducible refine zAp HKG ?_); first | assumption | with_reducible exact H2.out.kc HQ.out)) (((with_reducible refine (zCu b B (wS p) _ D2.out.st).mono ?_); rintro e w2 ⟨rfl,h2,k2⟩; have H2:=hid (D2.out.word h2 k2); clear h2 k2; unfold strV; obtain ⟨y14,c14⟩:=H2.out.toBR.cellx 14 (by decide); have fz:=H2.out.toBR.frz))
   go_wp2_with fail
   go_ret2
   exact ⟨_,none,{ r with dvIn:=nmV (wS p) },_,[],.nilFunc,E.out,rfl,(H2.out.put 14 _ rfl rfl),fun _ => ⟨rfl,rfl,rfl,rfl,rfl,rfl⟩,fun _ q => q,rfl,fun _ h => by cases h⟩
  | false =>
   rw [e1] at q1
   cases e2:(wV p == [111,117,116,112,117,116]) with
   | true =>
    rw [e2] at q2
    have E:Hid (zDi kb r.plain p = (wV p,none,({ r with dvOut:=nmV (wS p) }:Rt).plain,nmS (wS p))):=hid (by unfold zDi; rw [e0,e1,e2]; rfl)
    have ck:=H1.out.kc HQ.out
    go_wp2_with fail
    have D2:=hid H1.out.drew
    go_region_held3 (fun w' => w'.cell? ⟨q,0,none⟩ = some (.pointer (some ⟨g,12,none⟩))) (first | assumption | with_reducible exact D2.out.kc HQ.out | with_reducible exact H2.out.kc HQ.out | ((repeat with_reducible refine zAp HKG ?_); first | assumption | with_reducible exact H2.out.kc HQ.out)) (((with_reducible refine (zCu b B (wS p) _ D2.out.st).mono ?_); rintro e w2 ⟨rfl,h2,k2⟩; have H2:=hid (D2.out.word h2 k2); clear h2 k2; unfold strV; obtain ⟨y15,c15⟩:=H2.out.toBR.cellx 15 (by decide); have fz:=H2.out.toBR.frz))
    go_wp2_with fail
    go_ret2
    exact ⟨_,none,{ r with dvOut:=nmV (wS p) },_,[],.nilFunc,E.out,rfl,(H2.out.put 15 _ rfl rfl),fun _ => ⟨rfl,rfl,rfl,rfl,rfl,rfl⟩,fun _ q => q,rfl,fun _ h => by cases h⟩
   | false =>
    rw [e2] at q2
    cases e3:(wV p == [105,109,112,111,114,116]) with
    | true =>
     rw [e3] at q3
     have E:Hid (∀ v:Value,zDi kb r.plain p = (nmK [105,109,112,111,114,116] (srcN (srcV (wS p))),if kb then some .redDV else none,({ r with dvRedV:=v,dvRed:=r.dvRed ++ [({ (⟨0,1,0,[],0⟩:Rd) with frm:=srcV (wS p) }:Rd)] }:Rt).plain,srcS (wS p))):=hid (fun v => by unfold zDi; rw [e0,e1,e2,e3]; rfl)
     have ck:=H1.out.kc HQ.out
     go_wp2_with fail
     refine (imported_dvRed H1 HR HK).mono ?_
     rintro e w2 ⟨v,K', iv,rfl,hb,hi0,hi1,hn⟩
     have H2:=hid hb
     have HN:=hid hn
     clear hb hn ck
     cases kb with
     | false =>
      obtain rfl:=hi0 rfl
      clear hi0 hi1
      go_wp2_with fail
      go_ret2
      exact ⟨_,none,_,_,K', .nilFunc,E.out v,rfl,H2.out,fun _ => ⟨rfl,rfl,rfl,rfl,rfl,rfl⟩,fun _ q => q,rfl,fun k hk => HN.out k hk⟩
     | true =>
      have HI:=hid (hi1 rfl)
      clear hi0 hi1
      obtain ⟨g1,cap1,l1,x1,k1,k2,e1,e2,e3,e4,e5⟩:=HI.out
      subst e3
      clear e1 e2 e4 e5
      go_wp2_with fail
      go_ret2
      exact ⟨_,some .redDV,_,_,K', _,E.out v,rfl,H2.out,fun _ => ⟨rfl,rfl,rfl,rfl,rfl,rfl⟩,fun _ q => q,⟨by decide,rfl,HI.out⟩,fun k hk => HN.out k hk⟩
    | false =>
     rw [e3] at q3
     have E:Hid (zDi kb r.plain p = (wV p,none,r.plain,(wS p).fail)):=hid (by unfold zDi; rw [e0,e1,e2,e3]; rfl)
     have fb:=H1.out.st.frz 2
     have cb:=H1.out.st.bad1
     go_wp2_with fail
     clear fb cb
     go_ret2
     exact ⟨_,none,r,_,[],.nilFunc,E.out,rfl,H1.out.bad,fun _ => ⟨rfl,rfl,rfl,rfl,rfl,rfl⟩,fun _ q => q,rfl,fun _ h => by cases h⟩
def ldRanges:Op:=.load 28 (.tmp 24)
theorem linkState_form:FormC .linkState:=by
 intro g B b k w0 w r K kb p fv h hf he hs hr hk
 obtain ⟨q,rfl,e4⟩:=hf
 refine ⟨215,#[],#[.pointer (some ⟨q,0,none⟩)],rfl,enters_of Tryz.func215 (by kernel_rfl) rfl,?_⟩
 show Calls Tryz.prog 215 #[.pointer (some ⟨b,0,none⟩),.pointer (some ⟨q,0,none⟩)] w _
 have HQ:=hid e4
 have HKG:q≠g:=(h.keep _ e4).2.1
 clear e4
 have H:=hid h
 have HE:=hid he
 have HS:=hid hs
 have HR:=hid hr
 have HK:=hid hk
 clear h he hs hr hk
 have q0:((str (wV p)).toList == [112,114,101,102,101,114,101,110,99,101]) = (wV p == [112,114,101,102,101,114,101,110,99,101]):=by rw [zAb]
 have q1:((str (wV p)).toList == [114,97,110,103,101]) = (wV p == [114,97,110,103,101]):=by rw [zAb]
 have q2:((str (wV p)).toList == [105,109,112,111,114,116]) = (wV p == [105,109,112,111,114,116]):=by rw [zAb]
 go_enter Tryz.func215,Tryz.ntmps215
 go_wp2_with fail
 refine (zBl b B p _ H.out.st).mono ?_
 rintro e w1 ⟨rfl,h1,k1⟩
 have H1:=hid (H.out.word h1 k1)
 clear h1 k1
 unfold strV
 cases e0:(wV p == [112,114,101,102,101,114,101,110,99,101]) with
 | true =>
  rw [e0] at q0
  have E:Hid (zDa kb r.plain p = (wV p,none,({ r with lsAdmin:=noV 1 255 (wS p) }:Rt).plain,noS 1 255 (wS p))):=hid (by unfold zDa; rw [e0]; rfl)
  have ck:=H1.out.kc HQ.out
  go_wp2_with fail
  have D2:=hid H1.out.drew
  go_region_held3 (fun w' => w'.cell? ⟨q,0,none⟩ = some (.pointer (some ⟨g,8,none⟩))) (first | assumption | with_reducible exact D2.out.kc HQ.out | with_reducible exact H2.out.kc HQ.out | ((repeat with_reducible refine zAp HKG ?_); first | assumption | with_reducible exact H2.out.kc HQ.out)) (((with_reducible refine (zAn b B (wS p) 1 255 _ D2.out.st).mono ?_); rintro e w2 ⟨rfl,h2,k2⟩; have H2:=hid (D2.out.word h2 k2); clear h2 k2; obtain ⟨y9,c9⟩:=H2.out.toBR.cellx 9 (by decide); have fz:=H2.out.toBR.frz))
  go_wp2_with fail
  go_ret2
  exact ⟨_,none,{ r with lsAdmin:=noV 1 255 (wS p) },_,[],.nilFunc,E.out,rfl,(H2.out.put 9 _ rfl rfl),fun _ => ⟨rfl,rfl,rfl,rfl,rfl,rfl⟩,fun _ q => q,rfl,fun _ h => by cases h⟩
 | false =>
  rw [e0] at q0
  cases e1:(wV p == [114,97,110,103,101]) with
  | true =>
   rw [e1] at q1
   have E:Hid (∀ v:Value,zDa kb r.plain p = ([],none,({ r with rangesV:=v,ranges:=r.ranges ++ [(⟨noV 0 255 (wS p),(pxV (noS 0 255 (wS p))).1,(pxV (noS 0 255 (wS p))).2⟩:AR)] }:Rt).plain,pxS (noS 0 255 (wS p)))):=hid (fun v => by unfold zDa; rw [e0,e1]; rfl)
   have hm:rowE 147 3 AR.C r.rangesV r.ranges ∈ btR r:=List.mem_of_getElem? (i:=3) rfl
   have hbd:r.ranges.length≤1000000000:=(by have h:=HR.out.ranges.1; replace h:r.ranges.length≤k:=h; have:=HK.out; omega)
   obtain ⟨A0,c0,hnv, -⟩:=(rowE_own.1 (H1.out.own.1 _ hm)).slv
   have HNV:=hid hnv
   have ck:w1.cell? ⟨q,0,none⟩ = some (.pointer (some ⟨g,8,none⟩)):=H1.out.kc HQ.out
   have cr:w1.cell? ⟨g,10,none⟩ = some (.slice A0 r.ranges.length c0):=by rw [← hnv]; exact H1.out.toBR.cell 10
   have D1:=hid H1.out.drew
   have HM:=hid hm
   clear hnv hm
   go_wp2_with fail
   have hld:ldRanges = Op.load 28 (.tmp 24):=rfl
   rw [← hld]
   go_region_held3 (fun w' => w'.cell? ⟨q,0,none⟩ = some (.pointer (some ⟨g,8,none⟩))) (first | assumption | with_reducible exact D1.out.kc HQ.out | with_reducible exact cka _ | with_reducible exact zAp HKG ck5) (first | ((with_reducible refine (zAn b B (wS p) 0 255 _ D1.out.st).mono ?_); rintro e w2 ⟨rfl,h2,k2⟩; have H2:=hid (D1.out.word h2 k2); clear h2 k2; have ck2:w2.cell? ⟨q,0,none⟩ = some (.pointer (some ⟨g,8,none⟩)):=H2.out.kc HQ.out; have cr2:w2.cell? ⟨g,10,none⟩ = some (.slice A0 r.ranges.length c0):=(H2.out.toBR.cell 10).trans (congrArg some HNV.out)) | ((with_reducible refine (zEz b B (noS 0 255 (wS p)) _ H2.out.st (H2.out.toBR.env HE.out) (short_no _ _ (zBg HS.out))).mono ?_); rintro e w3 ⟨rfl,h3,k3⟩; have H3:=hid (H2.out.word h3 k3); clear h3 k3; have ck3:w3.cell? ⟨q,0,none⟩ = some (.pointer (some ⟨g,8,none⟩)):=H3.out.kc HQ.out; have cr3:w3.cell? ⟨g,10,none⟩ = some (.slice A0 r.ranges.length c0):=(H3.out.toBR.cell 10).trans (congrArg some HNV.out); have cka:∀ o,(w3.alloc o).cell? ⟨q,0,none⟩ = some (.pointer (some ⟨g,8,none⟩)):=(fun o => (World.cell?_alloc_lt w3 o ⟨q,0,none⟩ (zAw (H3.out.keep _ HQ.out).1)).trans ck3); have cra:∀ o,(w3.alloc o).cell? ⟨g,10,none⟩ = some (.slice A0 r.ranges.length c0):=(fun o => (World.cell?_alloc_lt w3 o ⟨g,10,none⟩ H3.out.toBR.lt).trans cr3); obtain ⟨A5,m5,c5,w5,hr,ho5,hg5,hn5⟩:=(rowE_own.1 (H3.out.own.1 _ HM.out)).push (P:=Tryz.prog) (Nat.le_trans H3.out.bB H3.out.size) kAR.sl kAR.info (by decide) (fun _ => rfl) (⟨noV 0 255 (wS p),(pxV (noS 0 255 (wS p))).1,(pxV (noS 0 255 (wS p))).2⟩:AR) (AR.one _) (by omega) (by decide) 28; obtain ⟨c6,f6⟩:=zCf hg5 (fun e => H3.out.gr (List.mem_filterMap.2 ⟨_,HM.out,e⟩)) (H3.out.toBR.cell 10) (H3.out.toBR.frz 10); have ck5:=(zCf hg5 (fun e => (H3.out.keep _ HQ.out).2.2 (List.mem_filterMap.2 ⟨_,HM.out,e⟩)) (H3.out.kc HQ.out) (Lib.frozen_of_heap (H3.out.keep _ HQ.out).1 0)).1; have HB5:=hid (H3.out.grow (r' := { r with rangesV:=.slice A5 m5 c5,ranges:=r.ranges ++ [(⟨noV 0 255 (wS p),(pxV (noS 0 255 (wS p))).1,(pxV (noS 0 255 (wS p))).2⟩:AR)] }) (v:=r.rangesV) (v' := .slice A5 m5 c5) (l:=r.ranges) (l' := r.ranges ++ [(⟨noV 0 255 (wS p),(pxV (noS 0 255 (wS p))).1,(pxV (noS 0 255 (wS p))).2⟩:AR)]) (E:=147) (n:=3) (C:=AR.C) (ex:=[]) (j:=10) (zEd (t:=(btR r).take 3) (z:=(btR r).drop 4) rfl) (zEd (t:=(btR r).take 3) (z:=(btR r).drop 4) rfl) (fun o ho => by cases ho) ho5 hg5 hn5 rfl); rw [HNV.out] at hr; have HR5:=hid hr; clear hr ho5 hn5 hg5) | (refine zBi rfl _ _ 28 28 rfl (.slice A0 r.ranges.length c0) (.slice (some ⟨w3.heap.size,0,none⟩) 1 1) (by simp [Act.eval]) (by simp [Act.eval]) HR5.out ?_))
   all_goals
    go_wp2_with fail
    go_ret2
    exact ⟨[],none,_,_,[],.nilFunc,E.out _,rfl,HB5.out,fun _ => ⟨rfl,rfl,rfl,rfl,rfl,rfl⟩,fun _ q => q,rfl,fun _ h => by cases h⟩
  | false =>
   rw [e1] at q1
   cases e2:(wV p == [105,109,112,111,114,116]) with
   | true =>
    rw [e2] at q2
    have E:Hid (∀ v:Value,zDa kb r.plain p = (nmK [105,109,112,111,114,116] (srcN (srcV (wS p))),if kb then some .redLS else none,({ r with lsRedV:=v,lsRed:=r.lsRed ++ [({ (⟨0,0,0,[],1⟩:Rd) with frm:=srcV (wS p) }:Rd)] }:Rt).plain,srcS (wS p))):=hid (fun v => by unfold zDa; rw [e0,e1,e2]; rfl)
    have ck:=H1.out.kc HQ.out
    go_wp2_with fail
    refine (imported_lsRed H1 HR HK).mono ?_
    rintro e w2 ⟨v,K', iv,rfl,hb,hi0,hi1,hn⟩
    have H2:=hid hb
    have HN:=hid hn
    clear hb hn ck
    cases kb with
    | false =>
     obtain rfl:=hi0 rfl
     clear hi0 hi1
     go_wp2_with fail
     go_ret2
     exact ⟨_,none,_,_,K', .nilFunc,E.out v,rfl,H2.out,fun _ => ⟨rfl,rfl,rfl,rfl,rfl,rfl⟩,fun _ q => q,rfl,fun k hk => HN.out k hk⟩
    | true =>
     have HI:=hid (hi1 rfl)
     clear hi0 hi1
     obtain ⟨g1,cap1,l1,x1,k1,k2,e1,e2,e3,e4,e5⟩:=HI.out
     subst e3
     clear e1 e2 e4 e5
     go_wp2_with fail
     go_ret2
     exact ⟨_,some .redLS,_,_,K', _,E.out v,rfl,H2.out,fun _ => ⟨rfl,rfl,rfl,rfl,rfl,rfl⟩,fun _ q => q,⟨by decide,rfl,HI.out⟩,fun k hk => HN.out k hk⟩
   | false =>
    rw [e2] at q2
    have E:Hid (zDa kb r.plain p = (wV p,none,r.plain,(wS p).fail)):=hid (by unfold zDa; rw [e0,e1,e2]; rfl)
    have fb:=H1.out.st.frz 2
    have cb:=H1.out.st.bad1
    go_wp2_with fail
    clear fb cb
    go_ret2
    exact ⟨_,none,r,_,[],.nilFunc,E.out,rfl,H1.out.bad,fun _ => ⟨rfl,rfl,rfl,rfl,rfl,rfl⟩,fun _ q => q,rfl,fun _ h => by cases h⟩
theorem path_form:FormC .path:=by
 intro g B b k w0 w r K kb p fv h hf he hs hr hk
 obtain ⟨q,rfl,e4⟩:=hf
 refine ⟨218,#[],#[.pointer (some ⟨q,0,none⟩)],rfl,enters_of Tryz.func218 (by kernel_rfl) rfl,?_⟩
 show Calls Tryz.prog 218 #[.pointer (some ⟨b,0,none⟩),.pointer (some ⟨q,0,none⟩)] w _
 have HQ:=hid e4
 have HKG:q≠g:=(h.keep _ e4).2.1
 clear e4
 have H:=hid h
 have HE:=hid he
 have HS:=hid hs
 have HR:=hid hr
 have HK:=hid hk
 clear h he hs hr hk
 have q0:((str (wV p)).toList == [112,114,101,102,101,114,101,110,99,101]) = (wV p == [112,114,101,102,101,114,101,110,99,101]):=by rw [zAb]
 have q1:((str (wV p)).toList == [110,101,105,103,104,98,111,114]) = (wV p == [110,101,105,103,104,98,111,114]):=by rw [zAb]
 have q2:((str (wV p)).toList == [110,101,116,119,111,114,107]) = (wV p == [110,101,116,119,111,114,107]):=by rw [zAb]
 have q3:((str (wV p)).toList == [97,103,103,114,101,103,97,116,101]) = (wV p == [97,103,103,114,101,103,97,116,101]):=by rw [zAb]
 have q4:((str (wV p)).toList == [111,114,105,103,105,110,97,116,101]) = (wV p == [111,114,105,103,105,110,97,116,101]):=by rw [zAb]
 have q5:((str (wV p)).toList == [105,109,112,111,114,116]) = (wV p == [105,109,112,111,114,116]):=by rw [zAb]
 go_enter Tryz.func218,Tryz.ntmps218
 go_wp2_with fail
 refine (zBl b B p _ H.out.st).mono ?_
 rintro e w1 ⟨rfl,h1,k1⟩
 have H1:=hid (H.out.word h1 k1)
 clear h1 k1
 unfold strV
 cases e0:(wV p == [112,114,101,102,101,114,101,110,99,101]) with
 | true =>
  rw [e0] at q0
  cases c:chB [101,120,116,101,114,110,97,108] [105,110,116,101,114,110,97,108] (wS p) with
  | true =>
   have CC:=hid c
   have E:Hid (pathF kb r.plain p = (nmK (wV p) [101,120,116,101,114,110,97,108],none,({ r with ext:=noV 1 255 (chS [101,120,116,101,114,110,97,108] [105,110,116,101,114,110,97,108] (wS p)) }:Rt).plain,noS 1 255 (chS [101,120,116,101,114,110,97,108] [105,110,116,101,114,110,97,108] (wS p)))):=hid (by unfold pathF; rw [e0,c]; rfl)
   clear c
   have b1:¬ (9223372036854775807 < (str (wV p)).size + 9):=by have:=zCl HS.out; omega
   have ret:Ending.returned (.tuple #[.string (str (wV p) ++ ⟨#[32,101,120,116,101,114,110,97,108]⟩),.nilFunc]) = .returned (.tuple #[strV (nmK (wV p) [101,120,116,101,114,110,97,108]),.nilFunc]):=by rw [show str (wV p) ++ (⟨#[32,101,120,116,101,114,110,97,108]⟩:ByteArray) = str (nmK (wV p) [101,120,116,101,114,110,97,108]) from by apply ByteArray.ext; simp [str,nmK,ByteArray.data_append]]; rfl
   go_wp2_with fail
   refine (zEh b B (wS p) [101,120,116,101,114,110,97,108] [105,110,116,101,114,110,97,108] _ H1.out.st).mono ?_
   rintro e w2 ⟨rfl,h2,k2⟩
   have H2:=hid (H1.out.word h2 k2)
   clear h2 k2
   rw [CC.out]
   have ck:=H2.out.kc HQ.out
   go_wp2_with fail
   have D3:=hid H2.out.drew
   go_region_held3 (fun w' => w'.cell? ⟨q,0,none⟩ = some (.pointer (some ⟨g,17,none⟩))) (first | assumption | with_reducible exact D3.out.kc HQ.out | with_reducible exact H3.out.kc HQ.out | ((repeat with_reducible refine zAp HKG ?_); first | assumption | with_reducible exact H3.out.kc HQ.out)) (((with_reducible refine (zAn b B (chS [101,120,116,101,114,110,97,108] [105,110,116,101,114,110,97,108] (wS p)) 1 255 _ D3.out.st).mono ?_); rintro e w3 ⟨rfl,h3,k3⟩; have H3:=hid (D3.out.word h3 k3); clear h3 k3; obtain ⟨y18,c18⟩:=H3.out.toBR.cellx 18 (by decide); have fz:=H3.out.toBR.frz))
   go_wp2_with fail
   go_ret2
   exact ⟨_,none,{ r with ext:=noV 1 255 (chS [101,120,116,101,114,110,97,108] [105,110,116,101,114,110,97,108] (wS p)) },_,[],.nilFunc,E.out,ret,(H3.out.put 18 _ rfl rfl),fun _ => ⟨rfl,rfl,rfl,rfl,rfl,rfl⟩,fun _ q => q,rfl,fun _ h => by cases h⟩
  | false =>
   have CC:=hid c
   have E:Hid (pathF kb r.plain p = (nmK (wV p) [105,110,116,101,114,110,97,108],none,({ r with int:=noV 1 255 (chS [101,120,116,101,114,110,97,108] [105,110,116,101,114,110,97,108] (wS p)) }:Rt).plain,noS 1 255 (chS [101,120,116,101,114,110,97,108] [105,110,116,101,114,110,97,108] (wS p)))):=hid (by unfold pathF; rw [e0,c]; rfl)
   clear c
   have b1:¬ (9223372036854775807 < (str (wV p)).size + 9):=by have:=zCl HS.out; omega
   have ret:Ending.returned (.tuple #[.string (str (wV p) ++ ⟨#[32,105,110,116,101,114,110,97,108]⟩),.nilFunc]) = .returned (.tuple #[strV (nmK (wV p) [105,110,116,101,114,110,97,108]),.nilFunc]):=by rw [show str (wV p) ++ (⟨#[32,105,110,116,101,114,110,97,108]⟩:ByteArray) = str (nmK (wV p) [105,110,116,101,114,110,97,108]) from by apply ByteArray.ext; simp [str,nmK,ByteArray.data_append]]; rfl
   go_wp2_with fail
   refine (zEh b B (wS p) [101,120,116,101,114,110,97,108] [105,110,116,101,114,110,97,108] _ H1.out.st).mono ?_
   rintro e w2 ⟨rfl,h2,k2⟩
   have H2:=hid (H1.out.word h2 k2)
   clear h2 k2
   rw [CC.out]
   have ck:=H2.out.kc HQ.out
   go_wp2_with fail
   have D3:=hid H2.out.drew
   go_region_held3 (fun w' => w'.cell? ⟨q,0,none⟩ = some (.pointer (some ⟨g,17,none⟩))) (first | assumption | with_reducible exact D3.out.kc HQ.out | with_reducible exact H3.out.kc HQ.out | ((repeat with_reducible refine zAp HKG ?_); first | assumption | with_reducible exact H3.out.kc HQ.out)) (((with_reducible refine (zAn b B (chS [101,120,116,101,114,110,97,108] [105,110,116,101,114,110,97,108] (wS p)) 1 255 _ D3.out.st).mono ?_); rintro e w3 ⟨rfl,h3,k3⟩; have H3:=hid (D3.out.word h3 k3); clear h3 k3; obtain ⟨y19,c19⟩:=H3.out.toBR.cellx 19 (by decide); have fz:=H3.out.toBR.frz))
   go_wp2_with fail
   go_ret2
   exact ⟨_,none,{ r with int:=noV 1 255 (chS [101,120,116,101,114,110,97,108] [105,110,116,101,114,110,97,108] (wS p)) },_,[],.nilFunc,E.out,ret,(H3.out.put 19 _ rfl rfl),fun _ => ⟨rfl,rfl,rfl,rfl,rfl,rfl⟩,fun _ q => q,rfl,fun _ h => by cases h⟩
 | false =>
  rw [e0] at q0
  cases e1:(wV p == [110,101,105,103,104,98,111,114]) with
  | true =>
   rw [e1] at q1
   have E:Hid (∀ v:Value,pathF kb r.plain p = (nmK (wV p) (fmtA (adV (wS p))),some .neighbor,({ r with nbV:=v,nb:=r.nb ++ [⟨adV (wS p),0,[],[]⟩] }:Rt).plain,adS (wS p))):=hid (fun v => by unfold pathF; rw [e0,e1]; rfl)
   have b1:¬ (9223372036854775807 < (str (wV p)).size + 1):=by have:=zCl HS.out; omega
   have b2:¬ (9223372036854775807 < (str (wV p)).size + 1 + (str (fmtA (adV (wS p)))).size):=by have:=zCl HS.out; have h:=zFz (adV (wS p)); rw [zAv (fmtA (adV (wS p)))]; omega
   have ret:∀ iv:Value,Ending.returned (.tuple #[.string (str (wV p) ++ ⟨#[32]⟩ ++ str (fmtA (adV (wS p)))),iv]) = .returned (.tuple #[strV (nmK (wV p) (fmtA (adV (wS p)))),iv]):=fun iv => by rw [zFg]; rfl
   have hbd:r.nb.length≤1000000000:=(by have h:=HR.out.nb.1; replace h:r.nb.length≤k:=h; have:=HK.out; omega)
   have one:(Nb.C ⟨adV (wS p),0,[],[]⟩).all (·.oneCell') = true:=(by simp [Nb.C,strV,Value.oneCell']) 
   have ck:=H1.out.kc HQ.out
   go_wp2_with fail
   have D1:=hid H1.out.drew
   go_region_held3 (fun w' => w'.cell? ⟨q,0,none⟩ = some (.pointer (some ⟨g,17,none⟩))) (first | assumption | with_reducible exact D1.out.kc HQ.out | with_reducible exact H2.out.kc HQ.out | with_reducible exact H3.out.kc HQ.out) (first | ((with_reducible refine (zCm b B (wS p) _ D1.out.st (D1.out.toBR.env HE.out) (zBg HS.out)).mono ?_); rintro e w2 ⟨rfl,h2,k2⟩; have H2:=hid (D1.out.word h2 k2); clear h2 k2) | ((refine (add_nb H2.out ⟨adV (wS p),0,[],[]⟩ one hbd).mono ?_); rintro e w3 ⟨gg,cap,cur,rfl,h3,a3⟩; have H3:=hid h3; have A3:=hid a3; clear h3 a3))
   have HE3:Hid (Env w3):=hid (H3.out.toBR.env HE.out).1
   have cn:w3.cell? ⟨gg,r.nb.length * 4,none⟩ = some (.int .u32 ((adV (wS p)):Int)):=A3.out.cell (j:=0) (show 0 < 4 from by decide)
   have FA:=hid (fun W (hW:Env W) => zDb (adV (wS p)) W (zBy _) hW)
   go_wp2_with fail
   refine (FA.out w3 HE3.out).mono ?_
   rintro e w4 ⟨rfl,h4⟩
   have H4:=hid (H3.out.on h4)
   clear h4 cn
   go_wp2_with fail
   refine (new_neighbor _ _).mono ?_
   rintro e w5 ⟨rfl,rfl⟩
   have H5:=hid (H4.out.box (.cells #[.pointer (some ⟨gg,r.nb.length * 4,none⟩)] 272))
   go_wp2_with fail
   go_ret2
   exact ⟨_,some .neighbor,_,_,[_],_,E.out _,ret _,H5.out,fun _ => ⟨rfl,rfl,rfl,rfl,rfl,rfl⟩,fun _ q => q,⟨by decide,rfl,gg,cap,r.nb,_,_,rfl,rfl,rfl,List.mem_cons_self⟩,fun k hk => by obtain rfl:=List.mem_singleton.1 hk; exact ⟨_,_,rfl⟩⟩
  | false =>
   rw [e1] at q1
   cases e2:(wV p == [110,101,116,119,111,114,107]) with
   | true =>
    rw [e2] at q2
    have E:Hid (∀ v:Value,pathF kb r.plain p = (nmK (wV p) (pfxF (pxV (wS p)).1 (pxV (wS p)).2),none,({ r with netV:=v,net:=r.net ++ [⟨(pxV (wS p)).1,(pxV (wS p)).2⟩] }:Rt).plain,(pxS (wS p)))):=hid (fun v => by unfold pathF; rw [e0,e1,e2]; rfl)
    have b1:¬ (9223372036854775807 < (str (wV p)).size + 1):=by have:=zCl HS.out; omega
    have b2:¬ (9223372036854775807 < (str (wV p)).size + 1 + (str (pfxF (pxV (wS p)).1 (pxV (wS p)).2)).size):=by have:=zCl HS.out; have h:=pfxF_le (pxV (wS p)).1 (pxV (wS p)).2; rw [zAv (pfxF (pxV (wS p)).1 (pxV (wS p)).2)]; omega
    have ret:∀ iv:Value,Ending.returned (.tuple #[.string (str (wV p) ++ ⟨#[32]⟩ ++ str (pfxF (pxV (wS p)).1 (pxV (wS p)).2)),iv]) = .returned (.tuple #[strV (nmK (wV p) (pfxF (pxV (wS p)).1 (pxV (wS p)).2)),iv]):=fun iv => by rw [zFg]; rfl
    go_wp2_with fail
    refine (zEz b B (wS p) _ H1.out.st (H1.out.toBR.env HE.out) (zBg HS.out)).mono ?_
    rintro e w2 ⟨rfl,h2,k2⟩
    have H2:=hid (H1.out.word h2 k2)
    clear h2 k2
    go_upto_region 14 with (fail)
    have X3:=hid (BX.new H2.out 76 (Pf.C ⟨(pxV (wS p)).1,(pxV (wS p)).2⟩))
    change Code.wp _ _ _ _ (w2.alloc (.cells (Pf.C ⟨(pxV (wS p)).1,(pxV (wS p)).2⟩) 76))
    generalize w2.alloc (.cells (Pf.C ⟨(pxV (wS p)).1,(pxV (wS p)).2⟩) 76) = w3 at X3 ⊢
    have hy:∃ y:Pf,y = ⟨(pxV (wS p)).1,(pxV (wS p)).2⟩:=⟨_,rfl⟩
    obtain ⟨y,hy⟩:=hy
    have PX:=hid (zAi (wS p))
    have HY:Hid (y.pa = (pxV (wS p)).1∧y.pl = (pxV (wS p)).2):=hid (by rw [hy]; exact ⟨rfl,rfl⟩)
    simp only [← hy] at X3 E
    clear hy
    have hm:rowE 76 2 Pf.C r.netV r.net ∈ btR r:=List.mem_of_getElem? (i:=7) rfl
    have hbd:r.net.length≤1000000000:=(by have h:=HR.out.net.1; replace h:r.net.length≤k:=h; have:=HK.out; omega)
    have MD:=hid X3.out.drew
    have ho:OwnE w3.drew B 76 2 Pf.C r.netV r.net:=rowE_own.1 (MD.out.bw.own.1 _ hm)
    obtain ⟨A0,c0,hnv, -⟩:=ho.slv
    obtain ⟨A5,m5,c5,wz,hr,ho5,hg5,hn5⟩:=ho.push (P:=Tryz.prog) (Nat.le_trans MD.out.bw.bB MD.out.bw.size) kPf.sl kPf.info (by decide) (fun _ => rfl) y (Pf.one y) (by omega) (by decide) 35
    have hne:r.netV.ownBlock≠some g:=fun e => X3.out.bw.gr (List.mem_filterMap.2 ⟨_,hm,e⟩)
    obtain ⟨c6,f6⟩:=zCf hg5 hne (MD.out.bw.toBR.cell 21) (MD.out.bw.toBR.frz 21)
    have cr:w3.cell? ⟨g,21,none⟩ = some (.slice A0 r.net.length c0):=by rw [← hnv]; exact X3.out.bw.toBR.cell 21
    have cra:∀ o,(w3.alloc o).cell? ⟨g,21,none⟩ = some (.slice A0 r.net.length c0):=fun o => (World.cell?_alloc_lt w3 o ⟨g,21,none⟩ X3.out.bw.toBR.lt).trans cr
    have cx0:w3.cell? ⟨w2.heap.size,0,none⟩ = .some (.int .u32 (y.pa:Int)):=X3.out.cell 0
    have cx1:w3.cell? ⟨w2.heap.size,1,none⟩ = .some (.int .i64 y.pl):=X3.out.cell 1
    have hkq:=X3.out.bw.keep _ (List.mem_cons_of_mem _ HQ.out)
    have ck:w3.cell? ⟨q,0,none⟩ = some (.pointer (some ⟨g,17,none⟩)):=X3.out.bw.kc (List.mem_cons_of_mem _ HQ.out)
    have cka:∀ o,(w3.alloc o).cell? ⟨q,0,none⟩ = some (.pointer (some ⟨g,17,none⟩)):=fun o => (World.cell?_alloc_lt w3 o ⟨q,0,none⟩ (zAw hkq.1)).trans ck
    have ck5:wz.cell? ⟨q,0,none⟩ = some (.pointer (some ⟨g,17,none⟩)):=(zCf hg5 (fun e => hkq.2.2 (List.mem_filterMap.2 ⟨_,hm,e⟩)) (MD.out.bw.kc (List.mem_cons_of_mem _ HQ.out)) (Lib.frozen_of_heap hkq.1 0)).1
    clear hkq
    have HB5:Hid (BW g B w0 { r with netV:=.slice A5 m5 c5,net:=r.net ++ [y] } ((w2.heap.size,.cells (Pf.C y) 76 (0,0)) :: K) (187,kb) b (pxS (wS p)) (wz.setCell ⟨g,21,none⟩ (.slice A5 m5 c5))):=hid ((MD.out.bw.grow (r' := { r with netV:=.slice A5 m5 c5,net:=r.net ++ [y] }) (v:=r.netV) (v' := .slice A5 m5 c5) (l:=r.net) (l' := r.net ++ [y]) (E:=76) (n:=2) (C:=Pf.C) (ex:=[]) (zEd (t:=(btR r).take 7) (z:=(btR r).drop 8) rfl) (zEd (t:=(btR r).take 7) (z:=(btR r).drop 8) rfl) (fun o ho => by cases ho) ho5 hg5 hn5 rfl))
    rw [hnv] at hr
    have HR5:=hid hr
    clear hr ho5 hn5 hg5 ho hm hne
    go_wp2_with fail
    go_region_law (refine zBi rfl _ _ 35 35 rfl (.slice A0 r.net.length c0) (.slice (some ⟨w3.heap.size,0,none⟩) 1 1) (by simp [Act.eval]) (by simp [Act.eval]) HR5.out ?_)
    all_goals
     have hq:HasC 76 w2.heap.size (Pf.C y) _:=(HB5.out.keep _ List.mem_cons_self).1
     have z0:=hq.cell 0
     have z1:=hq.cell 1
     have RZ:=hid hq.range
     replace z0:_ = some (Value.int .u32 (y.pa:Int)):=z0
     replace z1:_ = some (Value.int .i64 y.pl):=z1
     rw [HY.out.1] at z0
     rw [HY.out.2] at z1
     have HE5:=hid (HB5.out.toBR.env HE.out).1
     clear hq
     go_wp2_with fail
     refine (zAu (pxV (wS p)).1 (pxV (wS p)).2 _ PX.out HE5.out).mono ?_
     rintro e w9 ⟨rfl,h9⟩
     have H9:=hid ((HB5.out.less (K' := K) (fun _ hk => List.mem_cons_of_mem _ hk)).on h9)
     clear h9 z0 z1
     go_wp2_with fail
     go_ret2
     exact ⟨_,none,_,_,[],.nilFunc,E.out _,ret _,H9.out,fun _ => ⟨rfl,rfl,rfl,rfl,rfl,rfl⟩,fun _ q => q,rfl,fun _ h => by cases h⟩
   | false =>
    rw [e2] at q2
    cases e3:(wV p == [97,103,103,114,101,103,97,116,101]) with
    | true =>
     rw [e3] at q3
     have E:Hid (∀ v:Value,pathF kb r.plain p = (nmK (wV p) (pfxF (pxV (wS p)).1 (pxV (wS p)).2),none,({ r with agV:=v,ag:=r.ag ++ [⟨(pxV (wS p)).1,(pxV (wS p)).2,isW [111,110,108,121] (pxS (wS p))⟩] }:Rt).plain,(optS [111,110,108,121] (pxS (wS p))))):=hid (fun v => by unfold pathF; rw [e0,e1,e2,e3]; rfl)
     have b1:¬ (9223372036854775807 < (str (wV p)).size + 1):=by have:=zCl HS.out; omega
     have b2:¬ (9223372036854775807 < (str (wV p)).size + 1 + (str (pfxF (pxV (wS p)).1 (pxV (wS p)).2)).size):=by have:=zCl HS.out; have h:=pfxF_le (pxV (wS p)).1 (pxV (wS p)).2; rw [zAv (pfxF (pxV (wS p)).1 (pxV (wS p)).2)]; omega
     have ret:∀ iv:Value,Ending.returned (.tuple #[.string (str (wV p) ++ ⟨#[32]⟩ ++ str (pfxF (pxV (wS p)).1 (pxV (wS p)).2)),iv]) = .returned (.tuple #[strV (nmK (wV p) (pfxF (pxV (wS p)).1 (pxV (wS p)).2)),iv]):=fun iv => by rw [zFg]; rfl
     go_wp2_with fail
     refine (zEz b B (wS p) _ H1.out.st (H1.out.toBR.env HE.out) (zBg HS.out)).mono ?_
     rintro e w2 ⟨rfl,h2,k2⟩
     have H2:=hid (H1.out.word h2 k2)
     clear h2 k2
     go_wp2_with fail
     refine (zBj b B (pxS (wS p)) [111,110,108,121] _ H2.out.st).mono ?_
     rintro e w3 ⟨rfl,h3,k3⟩
     have H3:=hid (H2.out.word h3 k3)
     clear h3 k3
     go_upto_region 18 with (fail)
     have X4:=hid (BX.new H3.out 151 (Ag.C ⟨(pxV (wS p)).1,(pxV (wS p)).2,isW [111,110,108,121] (pxS (wS p))⟩))
     change Code.wp _ _ _ _ (w3.alloc (.cells (Ag.C ⟨(pxV (wS p)).1,(pxV (wS p)).2,isW [111,110,108,121] (pxS (wS p))⟩) 151))
     generalize w3.alloc (.cells (Ag.C ⟨(pxV (wS p)).1,(pxV (wS p)).2,isW [111,110,108,121] (pxS (wS p))⟩) 151) = w4 at X4 ⊢
     have hy:∃ y:Ag,y = ⟨(pxV (wS p)).1,(pxV (wS p)).2,isW [111,110,108,121] (pxS (wS p))⟩:=⟨_,rfl⟩
     obtain ⟨y,hy⟩:=hy
     have PX:=hid (zAi (wS p))
     have HY:Hid (y.pa = (pxV (wS p)).1∧y.pl = (pxV (wS p)).2):=hid (by rw [hy]; exact ⟨rfl,rfl⟩)
     simp only [← hy] at X4 E
     clear hy
     have hm:rowE 151 3 Ag.C r.agV r.ag ∈ btR r:=List.mem_of_getElem? (i:=8) rfl
     have hbd:r.ag.length≤1000000000:=(by have h:=HR.out.ag.1; replace h:r.ag.length≤k:=h; have:=HK.out; omega)
     have MD:=hid X4.out.drew
     have ho:OwnE w4.drew B 151 3 Ag.C r.agV r.ag:=rowE_own.1 (MD.out.bw.own.1 _ hm)
     obtain ⟨A0,c0,hnv, -⟩:=ho.slv
     obtain ⟨A5,m5,c5,wz,hr,ho5,hg5,hn5⟩:=ho.push (P:=Tryz.prog) (Nat.le_trans MD.out.bw.bB MD.out.bw.size) kAg.sl kAg.info (by decide) (fun _ => rfl) y (Ag.one y) (by omega) (by decide) 36
     have hne:r.agV.ownBlock≠some g:=fun e => X4.out.bw.gr (List.mem_filterMap.2 ⟨_,hm,e⟩)
     obtain ⟨c6,f6⟩:=zCf hg5 hne (MD.out.bw.toBR.cell 22) (MD.out.bw.toBR.frz 22)
     have cr:w4.cell? ⟨g,22,none⟩ = some (.slice A0 r.ag.length c0):=by rw [← hnv]; exact X4.out.bw.toBR.cell 22
     have cra:∀ o,(w4.alloc o).cell? ⟨g,22,none⟩ = some (.slice A0 r.ag.length c0):=fun o => (World.cell?_alloc_lt w4 o ⟨g,22,none⟩ X4.out.bw.toBR.lt).trans cr
     have cx0:w4.cell? ⟨w3.heap.size,0,none⟩ = .some (.int .u32 (y.pa:Int)):=X4.out.cell 0
     have cx1:w4.cell? ⟨w3.heap.size,1,none⟩ = .some (.int .i64 y.pl):=X4.out.cell 1
     have cx2:w4.cell? ⟨w3.heap.size,2,none⟩ = .some (.bool y.only):=X4.out.cell 2
     have hkq:=X4.out.bw.keep _ (List.mem_cons_of_mem _ HQ.out)
     have ck:w4.cell? ⟨q,0,none⟩ = some (.pointer (some ⟨g,17,none⟩)):=X4.out.bw.kc (List.mem_cons_of_mem _ HQ.out)
     have cka:∀ o,(w4.alloc o).cell? ⟨q,0,none⟩ = some (.pointer (some ⟨g,17,none⟩)):=fun o => (World.cell?_alloc_lt w4 o ⟨q,0,none⟩ (zAw hkq.1)).trans ck
     have ck5:wz.cell? ⟨q,0,none⟩ = some (.pointer (some ⟨g,17,none⟩)):=(zCf hg5 (fun e => hkq.2.2 (List.mem_filterMap.2 ⟨_,hm,e⟩)) (MD.out.bw.kc (List.mem_cons_of_mem _ HQ.out)) (Lib.frozen_of_heap hkq.1 0)).1
     clear hkq
     have HB5:Hid (BW g B w0 { r with agV:=.slice A5 m5 c5,ag:=r.ag ++ [y] } ((w3.heap.size,.cells (Ag.C y) 151 (0,0)) :: K) (187,kb) b (optS [111,110,108,121] (pxS (wS p))) (wz.setCell ⟨g,22,none⟩ (.slice A5 m5 c5))):=hid ((MD.out.bw.grow (r' := { r with agV:=.slice A5 m5 c5,ag:=r.ag ++ [y] }) (v:=r.agV) (v' := .slice A5 m5 c5) (l:=r.ag) (l' := r.ag ++ [y]) (E:=151) (n:=3) (C:=Ag.C) (ex:=[]) (zEd (t:=(btR r).take 8) (z:=(btR r).drop 9) rfl) (zEd (t:=(btR r).take 8) (z:=(btR r).drop 9) rfl) (fun o ho => by cases ho) ho5 hg5 hn5 rfl))
     rw [hnv] at hr
     have HR5:=hid hr
     clear hr ho5 hn5 hg5 ho hm hne
     go_wp2_with fail
     go_region_law (refine zBi rfl _ _ 36 36 rfl (.slice A0 r.ag.length c0) (.slice (some ⟨w4.heap.size,0,none⟩) 1 1) (by simp [Act.eval]) (by simp [Act.eval]) HR5.out ?_)
     all_goals
      have hq:HasC 151 w3.heap.size (Ag.C y) _:=(HB5.out.keep _ List.mem_cons_self).1
      have z0:=hq.cell 0
      have z1:=hq.cell 1
      have RZ:=hid hq.range
      replace z0:_ = some (Value.int .u32 (y.pa:Int)):=z0
      replace z1:_ = some (Value.int .i64 y.pl):=z1
      rw [HY.out.1] at z0
      rw [HY.out.2] at z1
      have HE5:=hid (HB5.out.toBR.env HE.out).1
      clear hq
      go_wp2_with fail
      refine (zAu (pxV (wS p)).1 (pxV (wS p)).2 _ PX.out HE5.out).mono ?_
      rintro e w9 ⟨rfl,h9⟩
      have H9:=hid ((HB5.out.less (K' := K) (fun _ hk => List.mem_cons_of_mem _ hk)).on h9)
      clear h9 z0 z1
      go_wp2_with fail
      go_ret2
      exact ⟨_,none,_,_,[],.nilFunc,E.out _,ret _,H9.out,fun _ => ⟨rfl,rfl,rfl,rfl,rfl,rfl⟩,fun _ q => q,rfl,fun _ h => by cases h⟩
    | false =>
     rw [e3] at q3
     cases e4:(wV p == [111,114,105,103,105,110,97,116,101]) with
     | true =>
      rw [e4] at q4
      have E:Hid (∀ v:Value,pathF kb r.plain p = (nmK (wV p) (pfxF (pxV (wS p)).1 (pxV (wS p)).2),none,({ r with cdV:=v,cd:=r.cd ++ [⟨(pxV (wS p)).1,(pxV (wS p)).2,(pxV (chS [105,102] [117,110,108,101,115,115] (pxS (wS p)))).1,(pxV (chS [105,102] [117,110,108,101,115,115] (pxS (wS p)))).2,!chB [105,102] [117,110,108,101,115,115] (pxS (wS p))⟩] }:Rt).plain,(pxS (chS [105,102] [117,110,108,101,115,115] (pxS (wS p)))))):=hid (fun v => by unfold pathF; rw [e0,e1,e2,e3,e4]; rfl)
      have b1:¬ (9223372036854775807 < (str (wV p)).size + 1):=by have:=zCl HS.out; omega
      have b2:¬ (9223372036854775807 < (str (wV p)).size + 1 + (str (pfxF (pxV (wS p)).1 (pxV (wS p)).2)).size):=by have:=zCl HS.out; have h:=pfxF_le (pxV (wS p)).1 (pxV (wS p)).2; rw [zAv (pfxF (pxV (wS p)).1 (pxV (wS p)).2)]; omega
      have ret:∀ iv:Value,Ending.returned (.tuple #[.string (str (wV p) ++ ⟨#[32]⟩ ++ str (pfxF (pxV (wS p)).1 (pxV (wS p)).2)),iv]) = .returned (.tuple #[strV (nmK (wV p) (pfxF (pxV (wS p)).1 (pxV (wS p)).2)),iv]):=fun iv => by rw [zFg]; rfl
      go_wp2_with fail
      refine (zEz b B (wS p) _ H1.out.st (H1.out.toBR.env HE.out) (zBg HS.out)).mono ?_
      rintro e w2 ⟨rfl,h2,k2⟩
      have H2:=hid (H1.out.word h2 k2)
      clear h2 k2
      go_wp2_with fail
      refine (zEh b B (pxS (wS p)) [105,102] [117,110,108,101,115,115] _ H2.out.st).mono ?_
      rintro e w3 ⟨rfl,h3,k3⟩
      have H3:=hid (H2.out.word h3 k3)
      clear h3 k3
      go_wp2_with fail
      refine (zEz b B (chS [105,102] [117,110,108,101,115,115] (pxS (wS p))) _ H3.out.st (H3.out.toBR.env HE.out) (zJj _ _ (short_px (zBg HS.out)))).mono ?_
      rintro e w4 ⟨rfl,h4,k4⟩
      have H4:=hid (H3.out.word h4 k4)
      clear h4 k4
      go_upto_region 22 with (refine zAc rfl 153 _ _ rfl rfl (ds:=Cd.C ⟨(pxV (wS p)).1,(pxV (wS p)).2,(pxV (chS [105,102] [117,110,108,101,115,115] (pxS (wS p)))).1,(pxV (chS [105,102] [117,110,108,101,115,115] (pxS (wS p)))).2,!chB [105,102] [117,110,108,101,115,115] (pxS (wS p))⟩) rfl (HasC.new _ _ _) rfl Tryz.sizeCd (Cd.one _) ?_; intro w5 hz1 hz2)
      have X5:=hid (BX.newc H4.out hz1 (zAh hz2))
      clear hz1 hz2
      have hy:∃ y:Cd,y = ⟨(pxV (wS p)).1,(pxV (wS p)).2,(pxV (chS [105,102] [117,110,108,101,115,115] (pxS (wS p)))).1,(pxV (chS [105,102] [117,110,108,101,115,115] (pxS (wS p)))).2,!chB [105,102] [117,110,108,101,115,115] (pxS (wS p))⟩:=⟨_,rfl⟩
      obtain ⟨y,hy⟩:=hy
      have PX:=hid (zAi (wS p))
      have HY:Hid (y.pa = (pxV (wS p)).1∧y.pl = (pxV (wS p)).2):=hid (by rw [hy]; exact ⟨rfl,rfl⟩)
      simp only [← hy] at X5 E
      clear hy
      have hm:rowE 153 5 Cd.C r.cdV r.cd ∈ btR r:=List.mem_of_getElem? (i:=9) rfl
      have hbd:r.cd.length≤1000000000:=(by have h:=HR.out.cd.1; replace h:r.cd.length≤k:=h; have:=HK.out; omega)
      have MD:=hid X5.out.drew
      have ho:OwnE w5.drew B 153 5 Cd.C r.cdV r.cd:=rowE_own.1 (MD.out.bw.own.1 _ hm)
      obtain ⟨A0,c0,hnv, -⟩:=ho.slv
      obtain ⟨A5,m5,c5,wz,hr,ho5,hg5,hn5⟩:=ho.push (P:=Tryz.prog) (Nat.le_trans MD.out.bw.bB MD.out.bw.size) kCd.sl kCd.info (by decide) (fun _ => rfl) y (Cd.one y) (by omega) (by decide) 37
      have hne:r.cdV.ownBlock≠some g:=fun e => X5.out.bw.gr (List.mem_filterMap.2 ⟨_,hm,e⟩)
      obtain ⟨c6,f6⟩:=zCf hg5 hne (MD.out.bw.toBR.cell 23) (MD.out.bw.toBR.frz 23)
      have cr:w5.cell? ⟨g,23,none⟩ = some (.slice A0 r.cd.length c0):=by rw [← hnv]; exact X5.out.bw.toBR.cell 23
      have cra:∀ o,(w5.alloc o).cell? ⟨g,23,none⟩ = some (.slice A0 r.cd.length c0):=fun o => (World.cell?_alloc_lt w5 o ⟨g,23,none⟩ X5.out.bw.toBR.lt).trans cr
      have cx0:w5.cell? ⟨w4.heap.size,0,none⟩ = .some (.int .u32 (y.pa:Int)):=X5.out.cell 0
      have cx1:w5.cell? ⟨w4.heap.size,1,none⟩ = .some (.int .i64 y.pl):=X5.out.cell 1
      have cx2:w5.cell? ⟨w4.heap.size,2,none⟩ = .some (.int .u32 (y.ia:Int)):=X5.out.cell 2
      have cx3:w5.cell? ⟨w4.heap.size,3,none⟩ = .some (.int .i64 y.il):=X5.out.cell 3
      have cx4:w5.cell? ⟨w4.heap.size,4,none⟩ = .some (.bool y.absent):=X5.out.cell 4
      have hkq:=X5.out.bw.keep _ (List.mem_cons_of_mem _ HQ.out)
      have ck:w5.cell? ⟨q,0,none⟩ = some (.pointer (some ⟨g,17,none⟩)):=X5.out.bw.kc (List.mem_cons_of_mem _ HQ.out)
      have cka:∀ o,(w5.alloc o).cell? ⟨q,0,none⟩ = some (.pointer (some ⟨g,17,none⟩)):=fun o => (World.cell?_alloc_lt w5 o ⟨q,0,none⟩ (zAw hkq.1)).trans ck
      have ck5:wz.cell? ⟨q,0,none⟩ = some (.pointer (some ⟨g,17,none⟩)):=(zCf hg5 (fun e => hkq.2.2 (List.mem_filterMap.2 ⟨_,hm,e⟩)) (MD.out.bw.kc (List.mem_cons_of_mem _ HQ.out)) (Lib.frozen_of_heap hkq.1 0)).1
      clear hkq
      have HB5:Hid (BW g B w0 { r with cdV:=.slice A5 m5 c5,cd:=r.cd ++ [y] } ((w4.heap.size,.cells (Cd.C y) 153 (0,0)) :: K) (187,kb) b (pxS (chS [105,102] [117,110,108,101,115,115] (pxS (wS p)))) (wz.setCell ⟨g,23,none⟩ (.slice A5 m5 c5))):=hid ((MD.out.bw.grow (r' := { r with cdV:=.slice A5 m5 c5,cd:=r.cd ++ [y] }) (v:=r.cdV) (v' := .slice A5 m5 c5) (l:=r.cd) (l' := r.cd ++ [y]) (E:=153) (n:=5) (C:=Cd.C) (ex:=[]) (zEd (t:=(btR r).take 9) (z:=(btR r).drop 10) rfl) (zEd (t:=(btR r).take 9) (z:=(btR r).drop 10) rfl) (fun o ho => by cases ho) ho5 hg5 hn5 rfl))
      rw [hnv] at hr
      have HR5:=hid hr
      clear hr ho5 hn5 hg5 ho hm hne
      go_wp2_with fail
      go_region_law (refine zBi rfl _ _ 37 37 rfl (.slice A0 r.cd.length c0) (.slice (some ⟨w5.heap.size,0,none⟩) 1 1) (by simp [Act.eval]) (by simp [Act.eval]) HR5.out ?_)
      all_goals
       have hq:HasC 153 w4.heap.size (Cd.C y) _:=(HB5.out.keep _ List.mem_cons_self).1
       have z0:=hq.cell 0
       have z1:=hq.cell 1
       have RZ:=hid hq.range
       replace z0:_ = some (Value.int .u32 (y.pa:Int)):=z0
       replace z1:_ = some (Value.int .i64 y.pl):=z1
       rw [HY.out.1] at z0
       rw [HY.out.2] at z1
       have HE5:=hid (HB5.out.toBR.env HE.out).1
       clear hq
       go_wp2_with fail
       refine (zAu (pxV (wS p)).1 (pxV (wS p)).2 _ PX.out HE5.out).mono ?_
       rintro e w9 ⟨rfl,h9⟩
       have H9:=hid ((HB5.out.less (K' := K) (fun _ hk => List.mem_cons_of_mem _ hk)).on h9)
       clear h9 z0 z1
       go_wp2_with fail
       go_ret2
       exact ⟨_,none,_,_,[],.nilFunc,E.out _,ret _,H9.out,fun _ => ⟨rfl,rfl,rfl,rfl,rfl,rfl⟩,fun _ q => q,rfl,fun _ h => by cases h⟩
     | false =>
      rw [e4] at q4
      cases e5:(wV p == [105,109,112,111,114,116]) with
      | true =>
       rw [e5] at q5
       have E:Hid (∀ v:Value,pathF kb r.plain p = (nmK [105,109,112,111,114,116] (srcN (srcV (wS p))),if kb then some .redPV else none,({ r with pvRedV:=v,pvRed:=r.pvRed ++ [({ (⟨0,0,0,[],0⟩:Rd) with frm:=srcV (wS p) }:Rd)] }:Rt).plain,srcS (wS p))):=hid (fun v => by unfold pathF; rw [e0,e1,e2,e3,e4,e5]; rfl)
       have ck:=H1.out.kc HQ.out
       go_wp2_with fail
       refine (imported_pvRed H1 HR HK).mono ?_
       rintro e w2 ⟨v,K', iv,rfl,hb,hi0,hi1,hn⟩
       have H2:=hid hb
       have HN:=hid hn
       clear hb hn ck
       cases kb with
       | false =>
        obtain rfl:=hi0 rfl
        clear hi0 hi1
        go_wp2_with fail
        go_ret2
        exact ⟨_,none,_,_,K', .nilFunc,E.out v,rfl,H2.out,fun _ => ⟨rfl,rfl,rfl,rfl,rfl,rfl⟩,fun _ q => q,rfl,fun k hk => HN.out k hk⟩
       | true =>
        have HI:=hid (hi1 rfl)
        clear hi0 hi1
        obtain ⟨g1,cap1,l1,x1,k1,k2,e1,e2,e3,e4,e5⟩:=HI.out
        subst e3
        clear e1 e2 e4 e5
        go_wp2_with fail
        go_ret2
        exact ⟨_,some .redPV,_,_,K', _,E.out v,rfl,H2.out,fun _ => ⟨rfl,rfl,rfl,rfl,rfl,rfl⟩,fun _ q => q,⟨by decide,rfl,HI.out⟩,fun k hk => HN.out k hk⟩
      | false =>
       rw [e5] at q5
       have E:Hid (pathF kb r.plain p = ([],none,r.plain,(wS p).fail)):=hid (by unfold pathF; rw [e0,e1,e2,e3,e4,e5]; rfl)
       have fb:=H1.out.st.frz 2
       have cb:=H1.out.st.bad1
       go_wp2_with fail
       clear fb cb
       go_ret2
       exact ⟨_,none,r,_,[],.nilFunc,E.out,rfl,H1.out.bad,fun _ => ⟨rfl,rfl,rfl,rfl,rfl,rfl⟩,fun _ q => q,rfl,fun _ h => by cases h⟩
end Go.Proofs.YtdlgnhefpoalnaaGreatDoor
namespace Go.Proofs.YtdlgnhefpoalnaaGreatDoor
open Lib (hid)
theorem form_any:∀ f,FormC f
 | .top => top_form
 | .system => system_form
 | .interfaces => interfaces_form
 | .iface => iface_form
 | .prefixRules => zMp
 | .clauses => clauses_form
 | .clause => clause_form
 | .rules => rules_form
 | .rule => rule_form
 | .translations => zLw
 | .statics => statics_form
 | .static => static_form
 | .linkState => linkState_form
 | .distance => distance_form
 | .path => path_form
 | .neighbor => neighbor_form
 | .redLS => redLS_form
 | .redDV => redDV_form
 | .redPV => redPV_form
end Go.Proofs.YtdlgnhefpoalnaaGreatDoor
