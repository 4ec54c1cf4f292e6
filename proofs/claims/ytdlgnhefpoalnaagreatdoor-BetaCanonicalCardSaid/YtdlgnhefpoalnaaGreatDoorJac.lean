/- Beta's cursor in memory; what sequence and node answer. No condition. -/
import Derived.Test.YtdlgnhefpoalnaaGreatDoorJab
set_option maxRecDepth 8000
set_option maxHeartbeats 4000000
namespace Go.Proofs.YtdlgnhefpoalnaaGreatDoor
open Lib (hid)
open Go.RowKit
theorem zFg (a b:List UInt8):str a ++ ⟨#[32]⟩ ++ str b = str (nmK a b):=by
 apply ByteArray.ext
 simp [str,nmK,ByteArray.data_append]
theorem clause1_any (k g o b B:Nat) (cur:Array Value) (x:Cl) (kb:Bool) (p:Ps) (w:World) (h:Ck 138 g o cur (187,kb) b B [(k,.cells #[.pointer (some ⟨g,o,none⟩)] 216 (0,0))] w x.C p w) (he:EnvA B w) (hs:p.short) :
  Calls Tryz.prog 249 #[.pointer (some ⟨b,0,none⟩),.pointer (some ⟨k,0,none⟩)] w (FPost zCv clF Cl.C x 138 g o cur (187,kb) b B [(k,.cells #[.pointer (some ⟨g,o,none⟩)] 216 (0,0))] w p):=by
 have H:=hid h
 have HE:=hid he
 have HS:=hid hs
 have HKG:k≠g:=(H.out.keep _ List.mem_cons_self).2.1
 clear h he hs
 have q0:((str (wV p)).toList == [97,99,99,101,112,116]) = (wV p == [97,99,99,101,112,116]):=by rw [zAb]
 have q1:((str (wV p)).toList == [114,101,106,101,99,116]) = (wV p == [114,101,106,101,99,116]):=by rw [zAb]
 have s1:=zCl HS.out
 have s2:=zCl (zBg HS.out)
 have ret_nmK:Ending.returned (.tuple #[.string (str (wV p) ++ ⟨#[32]⟩ ++ str (wV (wS p))),.nilFunc]) = .returned (.tuple #[strV (nmK (wV p) (wV (wS p))),.nilFunc]):=by rw [zFg]; rfl
 go_enter Tryz.func249,Tryz.ntmps249
 go_wp2_with fail
 refine (zBl b B p _ H.out.st).mono ?_
 rintro e w1 ⟨rfl,h1,k1⟩
 have H1:=hid (H.out.word h1 k1)
 clear h1 k1
 unfold strV
 cases e0:(wV p == [97,99,99,101,112,116]) with
 | true =>
  rw [e0] at q0
  have E:Hid (∀ r,zCv r p = ([97,99,116,105,111,110],none,clF (fun x => { x with permit:=true }) r,wS p)):=hid (fun r => by unfold zCv; rw [if_pos (by rw [e0]; rfl),e0])
  have fz:=H1.out.frz
  have ck:=H1.out.kc
  obtain ⟨y0,c0⟩:=H1.out.cell (j:=0) (show 0 < 7 from by decide)
  have fz0:=H1.out.frz 0
  rw [Nat.add_zero] at c0 fz0
  go_wp2_with fail
  go_ret2
  exact ⟨_,fun x => { x with permit:=true },_,E.out,rfl,(H1.out.put (j:=0) (show 0 < 7 from by decide) _ rfl)⟩
 | false =>
  rw [e0] at q0
  cases e1:(wV p == [114,101,106,101,99,116]) with
  | true =>
   rw [e1] at q1
   have E:Hid (∀ r,zCv r p = ([97,99,116,105,111,110],none,clF (fun x => { x with permit:=false }) r,wS p)):=hid (fun r => by unfold zCv; rw [if_pos (by rw [e1,Bool.or_true]),e0])
   have fz:=H1.out.frz
   have ck:=H1.out.kc
   obtain ⟨y0,c0⟩:=H1.out.cell (j:=0) (show 0 < 7 from by decide)
   have fz0:=H1.out.frz 0
   rw [Nat.add_zero] at c0 fz0
   go_wp2_with fail
   go_ret2
   exact ⟨_,fun x => { x with permit:=false },_,E.out,rfl,(H1.out.put (j:=0) (show 0 < 7 from by decide) _ rfl)⟩
  | false =>
   rw [e1] at q1
   have fz:=H1.out.frz
   have ck:=H1.out.kc
   go_wp2_with fail
   clear fz ck
   refine (zBl b B (wS p) _ H1.out.st).mono ?_
   rintro e w2 ⟨rfl,h2,k2⟩
   have H2:=hid (H1.out.word h2 k2)
   clear h2 k2
   unfold strV
   have r0:((str (wV p) ++ ⟨#[32]⟩ ++ str (wV (wS p))).toList == [102,114,111,109,32,108,105,115,116]) = (nmK (wV p) (wV (wS p)) == [102,114,111,109,32,108,105,115,116]):=by rw [zFg,zAb]
   have r1:((str (wV p) ++ ⟨#[32]⟩ ++ str (wV (wS p))).toList == [102,114,111,109,32,116,97,103]) = (nmK (wV p) (wV (wS p)) == [102,114,111,109,32,116,97,103]):=by rw [zFg,zAb]
   have r2:((str (wV p) ++ ⟨#[32]⟩ ++ str (wV (wS p))).toList == [116,104,101,110,32,109,101,116,114,105,99]) = (nmK (wV p) (wV (wS p)) == [116,104,101,110,32,109,101,116,114,105,99]):=by rw [zFg,zAb]
   have r3:((str (wV p) ++ ⟨#[32]⟩ ++ str (wV (wS p))).toList == [116,104,101,110,32,116,97,103]) = (nmK (wV p) (wV (wS p)) == [116,104,101,110,32,116,97,103]):=by rw [zFg,zAb]
   have r4:((str (wV p) ++ ⟨#[32]⟩ ++ str (wV (wS p))).toList == [116,104,101,110,32,112,114,101,102,101,114,101,110,99,101]) = (nmK (wV p) (wV (wS p)) == [116,104,101,110,32,112,114,101,102,101,114,101,110,99,101]):=by rw [zFg,zAb]
   have r5:((str (wV p) ++ ⟨#[32]⟩ ++ str (wV (wS p))).toList == [116,104,101,110,32,112,114,101,112,101,110,100]) = (nmK (wV p) (wV (wS p)) == [116,104,101,110,32,112,114,101,112,101,110,100]):=by rw [zFg,zAb]
   cases f0:(nmK (wV p) (wV (wS p)) == [102,114,111,109,32,108,105,115,116]) with
   | true =>
    rw [f0] at r0
    have E:Hid (∀ r,zCv r p = (nmK (wV p) (wV (wS p)),none,clF (fun x => { x with list:=nmV (wS (wS p)) }) r,nmS (wS (wS p)))):=hid (fun r => by unfold zCv; rw [if_neg (by rw [e0,e1]; decide)]; dsimp only; rw [f0]; rfl)
    have fz:=H2.out.frz
    have ck:=H2.out.kc
    go_wp2_with fail
    have D3:=hid H2.out.drew
    clear fz ck
    go_region_held3 (fun w' => w'.cell? ⟨k,0,none⟩ = some (.pointer (some ⟨g,o,none⟩))) (first | assumption | with_reducible exact D3.out.kc | with_reducible exact H3.out.kc | ((repeat with_reducible refine zAp HKG ?_); first | assumption | with_reducible exact H3.out.kc)) (((with_reducible refine (zCu b B (wS (wS p)) _ D3.out.st).mono ?_); rintro e w3 ⟨rfl,h3,k3⟩; have H3:=hid (D3.out.word h3 k3); clear h3 k3; unfold strV; have fz:=H3.out.frz; obtain ⟨y1,c1⟩:=H3.out.cell (j:=1) (show 1 < 7 from by decide)))
    go_wp2_with fail
    go_ret2
    exact ⟨_,fun x => { x with list:=nmV (wS (wS p)) },_,E.out,ret_nmK,(H3.out.put (j:=1) (show 1 < 7 from by decide) _ rfl)⟩
   | false =>
    rw [f0] at r0
    cases f1:(nmK (wV p) (wV (wS p)) == [102,114,111,109,32,116,97,103]) with
    | true =>
     rw [f1] at r1
     have E:Hid (∀ r,zCv r p = (nmK (wV p) (wV (wS p)),none,clF (fun x => { x with tag:=noV 0 65535 (wS (wS p)) }) r,noS 0 65535 (wS (wS p)))):=hid (fun r => by unfold zCv; rw [if_neg (by rw [e0,e1]; decide)]; dsimp only; rw [f0,f1]; rfl)
     have fz:=H2.out.frz
     have ck:=H2.out.kc
     go_wp2_with fail
     have D3:=hid H2.out.drew
     clear fz ck
     go_region_held3 (fun w' => w'.cell? ⟨k,0,none⟩ = some (.pointer (some ⟨g,o,none⟩))) (first | assumption | with_reducible exact D3.out.kc | with_reducible exact H3.out.kc | ((repeat with_reducible refine zAp HKG ?_); first | assumption | with_reducible exact H3.out.kc)) (((with_reducible refine (zAn b B (wS (wS p)) 0 65535 _ D3.out.st).mono ?_); rintro e w3 ⟨rfl,h3,k3⟩; have H3:=hid (D3.out.word h3 k3); clear h3 k3; have fz:=H3.out.frz; obtain ⟨y2,c2⟩:=H3.out.cell (j:=2) (show 2 < 7 from by decide)))
     go_wp2_with fail
     go_ret2
     exact ⟨_,fun x => { x with tag:=noV 0 65535 (wS (wS p)) },_,E.out,ret_nmK,(H3.out.put (j:=2) (show 2 < 7 from by decide) _ rfl)⟩
    | false =>
     rw [f1] at r1
     cases f2:(nmK (wV p) (wV (wS p)) == [116,104,101,110,32,109,101,116,114,105,99]) with
     | true =>
      rw [f2] at r2
      have E:Hid (∀ r,zCv r p = (nmK (wV p) (wV (wS p)),none,clF (fun x => { x with setM:=noV 0 16777215 (wS (wS p)) }) r,noS 0 16777215 (wS (wS p)))):=hid (fun r => by unfold zCv; rw [if_neg (by rw [e0,e1]; decide)]; dsimp only; rw [f0,f1,f2]; rfl)
      have fz:=H2.out.frz
      have ck:=H2.out.kc
      go_wp2_with fail
      have D3:=hid H2.out.drew
      clear fz ck
      go_region_held3 (fun w' => w'.cell? ⟨k,0,none⟩ = some (.pointer (some ⟨g,o,none⟩))) (first | assumption | with_reducible exact D3.out.kc | with_reducible exact H3.out.kc | ((repeat with_reducible refine zAp HKG ?_); first | assumption | with_reducible exact H3.out.kc)) (((with_reducible refine (zAn b B (wS (wS p)) 0 16777215 _ D3.out.st).mono ?_); rintro e w3 ⟨rfl,h3,k3⟩; have H3:=hid (D3.out.word h3 k3); clear h3 k3; have fz:=H3.out.frz; obtain ⟨y3,c3⟩:=H3.out.cell (j:=3) (show 3 < 7 from by decide)))
      go_wp2_with fail
      go_ret2
      exact ⟨_,fun x => { x with setM:=noV 0 16777215 (wS (wS p)) },_,E.out,ret_nmK,(H3.out.put (j:=3) (show 3 < 7 from by decide) _ rfl)⟩
     | false =>
      rw [f2] at r2
      cases f3:(nmK (wV p) (wV (wS p)) == [116,104,101,110,32,116,97,103]) with
      | true =>
       rw [f3] at r3
       have E:Hid (∀ r,zCv r p = (nmK (wV p) (wV (wS p)),none,clF (fun x => { x with setT:=noV 0 65535 (wS (wS p)) }) r,noS 0 65535 (wS (wS p)))):=hid (fun r => by unfold zCv; rw [if_neg (by rw [e0,e1]; decide)]; dsimp only; rw [f0,f1,f2,f3]; rfl)
       have fz:=H2.out.frz
       have ck:=H2.out.kc
       go_wp2_with fail
       have D3:=hid H2.out.drew
       clear fz ck
       go_region_held3 (fun w' => w'.cell? ⟨k,0,none⟩ = some (.pointer (some ⟨g,o,none⟩))) (first | assumption | with_reducible exact D3.out.kc | with_reducible exact H3.out.kc | ((repeat with_reducible refine zAp HKG ?_); first | assumption | with_reducible exact H3.out.kc)) (((with_reducible refine (zAn b B (wS (wS p)) 0 65535 _ D3.out.st).mono ?_); rintro e w3 ⟨rfl,h3,k3⟩; have H3:=hid (D3.out.word h3 k3); clear h3 k3; have fz:=H3.out.frz; obtain ⟨y4,c4⟩:=H3.out.cell (j:=4) (show 4 < 7 from by decide)))
       go_wp2_with fail
       go_ret2
       exact ⟨_,fun x => { x with setT:=noV 0 65535 (wS (wS p)) },_,E.out,ret_nmK,(H3.out.put (j:=4) (show 4 < 7 from by decide) _ rfl)⟩
      | false =>
       rw [f3] at r3
       cases f4:(nmK (wV p) (wV (wS p)) == [116,104,101,110,32,112,114,101,102,101,114,101,110,99,101]) with
       | true =>
        rw [f4] at r4
        have E:Hid (∀ r,zCv r p = (nmK (wV p) (wV (wS p)),none,clF (fun x => { x with setP:=noV 0 1000000 (wS (wS p)) }) r,noS 0 1000000 (wS (wS p)))):=hid (fun r => by unfold zCv; rw [if_neg (by rw [e0,e1]; decide)]; dsimp only; rw [f0,f1,f2,f3,f4]; rfl)
        have fz:=H2.out.frz
        have ck:=H2.out.kc
        go_wp2_with fail
        have D3:=hid H2.out.drew
        clear fz ck
        go_region_held3 (fun w' => w'.cell? ⟨k,0,none⟩ = some (.pointer (some ⟨g,o,none⟩))) (first | assumption | with_reducible exact D3.out.kc | with_reducible exact H3.out.kc | ((repeat with_reducible refine zAp HKG ?_); first | assumption | with_reducible exact H3.out.kc)) (((with_reducible refine (zAn b B (wS (wS p)) 0 1000000 _ D3.out.st).mono ?_); rintro e w3 ⟨rfl,h3,k3⟩; have H3:=hid (D3.out.word h3 k3); clear h3 k3; have fz:=H3.out.frz; obtain ⟨y5,c5⟩:=H3.out.cell (j:=5) (show 5 < 7 from by decide)))
        go_wp2_with fail
        go_ret2
        exact ⟨_,fun x => { x with setP:=noV 0 1000000 (wS (wS p)) },_,E.out,ret_nmK,(H3.out.put (j:=5) (show 5 < 7 from by decide) _ rfl)⟩
       | false =>
        rw [f4] at r4
        cases f5:(nmK (wV p) (wV (wS p)) == [116,104,101,110,32,112,114,101,112,101,110,100]) with
        | true =>
         rw [f5] at r5
         have E:Hid (∀ r,zCv r p = (nmK (wV p) (wV (wS p)),none,clF (fun x => { x with prep:=noV 0 8 (wS (wS p)) }) r,noS 0 8 (wS (wS p)))):=hid (fun r => by unfold zCv; rw [if_neg (by rw [e0,e1]; decide)]; dsimp only; rw [f0,f1,f2,f3,f4,f5]; rfl)
         have fz:=H2.out.frz
         have ck:=H2.out.kc
         go_wp2_with fail
         have D3:=hid H2.out.drew
         clear fz ck
         go_region_held3 (fun w' => w'.cell? ⟨k,0,none⟩ = some (.pointer (some ⟨g,o,none⟩))) (first | assumption | with_reducible exact D3.out.kc | with_reducible exact H3.out.kc | ((repeat with_reducible refine zAp HKG ?_); first | assumption | with_reducible exact H3.out.kc)) (((with_reducible refine (zAn b B (wS (wS p)) 0 8 _ D3.out.st).mono ?_); rintro e w3 ⟨rfl,h3,k3⟩; have H3:=hid (D3.out.word h3 k3); clear h3 k3; have fz:=H3.out.frz; obtain ⟨y6,c6⟩:=H3.out.cell (j:=6) (show 6 < 7 from by decide)))
         go_wp2_with fail
         go_ret2
         exact ⟨_,fun x => { x with prep:=noV 0 8 (wS (wS p)) },_,E.out,ret_nmK,(H3.out.put (j:=6) (show 6 < 7 from by decide) _ rfl)⟩
        | false =>
         rw [f5] at r5
         have E:Hid (∀ r,zCv r p = (nmK (wV p) (wV (wS p)),none,clF (fun x => x) r,(wS (wS p)).fail)):=hid (fun r => by rw [clF_id]; unfold zCv; rw [if_neg (by rw [e0,e1]; decide)]; dsimp only; rw [f0,f1,f2,f3,f4,f5]; rfl)
         have fz:=H2.out.frz
         have ck:=H2.out.kc
         have fb:=H2.out.st.frz 2
         have cb:=H2.out.st.bad1
         go_wp2_with fail
         go_ret2
         exact ⟨_,fun x => x,_,E.out,ret_nmK,H2.out.bad⟩
theorem zKd (mk:(Rd→Rd)→Rt→Rt) (hmk:∀ r,mk (fun x => x) r = r) (typed:Bool) (k kt g o b B:Nat) (cur:Array Value) (x:Rd) (kb:Bool) (p:Ps) (w:World) (h:Ck 230 g o cur (187,kb) b B [(k,.cells #[.pointer (some ⟨g,o,none⟩)] 301 (0,0)),(kt,.cells #[.bool typed] 4 (0,0))] w x.C p w) (he:EnvA B w) (hs:p.short) :
  Calls Tryz.prog 273 #[.pointer (some ⟨b,0,none⟩),.pointer (some ⟨k,0,none⟩),.pointer (some ⟨kt,0,none⟩)] w (FPost (redF' typed mk) mk Rd.C x 230 g o cur (187,kb) b B [(k,.cells #[.pointer (some ⟨g,o,none⟩)] 301 (0,0)),(kt,.cells #[.bool typed] 4 (0,0))] w p):=by
 have H:=hid h
 have HE:=hid he
 have HS:=hid hs
 have HKG:k≠g:=(H.out.keep _ List.mem_cons_self).2.1
 clear h he hs
 have q0:((str (wV p)).toList == [109,101,116,114,105,99]) = (wV p == [109,101,116,114,105,99]):=by rw [zAb]
 have q1:((str (wV p)).toList == [116,97,103]) = (wV p == [116,97,103]):=by rw [zAb]
 have q2:((str (wV p)).toList == [112,111,108,105,99,121]) = (wV p == [112,111,108,105,99,121]):=by rw [zAb]
 have q3:((str (wV p)).toList == [116,121,112,101]) = (wV p == [116,121,112,101]):=by rw [zAb]
 go_enter Tryz.func273,Tryz.ntmps273
 go_wp2_with fail
 refine (zBl b B p _ H.out.st).mono ?_
 rintro e w1 ⟨rfl,h1,k1⟩
 have H1:=hid (H.out.word h1 k1)
 clear h1 k1
 unfold strV
 cases e0:(wV p == [109,101,116,114,105,99]) with
 | true =>
  rw [e0] at q0
  have E:Hid (∀ r,(redF' typed mk) r p = (wV p,none,mk (fun x => { x with metric:=noV 0 16777215 (wS p) }) r,noS 0 16777215 (wS p))):=hid (fun r => by unfold redF'; rw [e0]; rfl)
  have fz:=H1.out.frz
  have ck:=H1.out.kc
  have ck2:=H1.out.kc2
  go_wp2_with fail
  have D2:=hid H1.out.drew
  clear fz ck ck2
  go_region_held3 (fun w' => w'.cell? ⟨k,0,none⟩ = some (.pointer (some ⟨g,o,none⟩))) (first | assumption | with_reducible exact D2.out.kc | with_reducible exact H2.out.kc | ((repeat with_reducible refine zAp HKG ?_); first | assumption | with_reducible exact H2.out.kc)) (((with_reducible refine (zAn b B (wS p) 0 16777215 _ D2.out.st).mono ?_); rintro e w2 ⟨rfl,h2,k2⟩; have H2:=hid (D2.out.word h2 k2); clear h2 k2; have fz:=H2.out.frz; obtain ⟨y1,c1⟩:=H2.out.cell (j:=1) (show 1 < 5 from by decide)))
  go_wp2_with fail
  go_ret2
  exact ⟨_,fun x => { x with metric:=noV 0 16777215 (wS p) },_,E.out,rfl,(H2.out.put (j:=1) (show 1 < 5 from by decide) _ rfl)⟩
 | false =>
  rw [e0] at q0
  cases e1:(wV p == [116,97,103]) with
  | true =>
   rw [e1] at q1
   have E:Hid (∀ r,(redF' typed mk) r p = (wV p,none,mk (fun x => { x with tag:=noV 0 65535 (wS p) }) r,noS 0 65535 (wS p))):=hid (fun r => by unfold redF'; rw [e0,e1]; rfl)
   have fz:=H1.out.frz
   have ck:=H1.out.kc
   have ck2:=H1.out.kc2
   go_wp2_with fail
   have D2:=hid H1.out.drew
   clear fz ck ck2
   go_region_held3 (fun w' => w'.cell? ⟨k,0,none⟩ = some (.pointer (some ⟨g,o,none⟩))) (first | assumption | with_reducible exact D2.out.kc | with_reducible exact H2.out.kc | ((repeat with_reducible refine zAp HKG ?_); first | assumption | with_reducible exact H2.out.kc)) (((with_reducible refine (zAn b B (wS p) 0 65535 _ D2.out.st).mono ?_); rintro e w2 ⟨rfl,h2,k2⟩; have H2:=hid (D2.out.word h2 k2); clear h2 k2; have fz:=H2.out.frz; obtain ⟨y2,c2⟩:=H2.out.cell (j:=2) (show 2 < 5 from by decide)))
   go_wp2_with fail
   go_ret2
   exact ⟨_,fun x => { x with tag:=noV 0 65535 (wS p) },_,E.out,rfl,(H2.out.put (j:=2) (show 2 < 5 from by decide) _ rfl)⟩
  | false =>
   rw [e1] at q1
   cases e2:(wV p == [112,111,108,105,99,121]) with
   | true =>
    rw [e2] at q2
    have E:Hid (∀ r,(redF' typed mk) r p = (wV p,none,mk (fun x => { x with map:=nmV (wS p) }) r,nmS (wS p))):=hid (fun r => by unfold redF'; rw [e0,e1,e2]; rfl)
    have fz:=H1.out.frz
    have ck:=H1.out.kc
    have ck2:=H1.out.kc2
    go_wp2_with fail
    have D2:=hid H1.out.drew
    clear fz ck ck2
    go_region_held3 (fun w' => w'.cell? ⟨k,0,none⟩ = some (.pointer (some ⟨g,o,none⟩))) (first | assumption | with_reducible exact D2.out.kc | with_reducible exact H2.out.kc | ((repeat with_reducible refine zAp HKG ?_); first | assumption | with_reducible exact H2.out.kc)) (((with_reducible refine (zCu b B (wS p) _ D2.out.st).mono ?_); rintro e w2 ⟨rfl,h2,k2⟩; have H2:=hid (D2.out.word h2 k2); clear h2 k2; unfold strV; have fz:=H2.out.frz; obtain ⟨y3,c3⟩:=H2.out.cell (j:=3) (show 3 < 5 from by decide)))
    go_wp2_with fail
    go_ret2
    exact ⟨_,fun x => { x with map:=nmV (wS p) },_,E.out,rfl,(H2.out.put (j:=3) (show 3 < 5 from by decide) _ rfl)⟩
   | false =>
    rw [e2] at q2
    cases e3:(wV p == [116,121,112,101]) with
    | true =>
     rw [e3] at q3
     cases typed with
     | true =>
      have E:Hid (∀ r,(redF' true mk) r p = (wV p,none,mk (fun x => { x with typ:=noV 1 2 (wS p) }) r,noS 1 2 (wS p))):=hid (fun r => by unfold redF'; rw [e0,e1,e2,e3]; rfl)
      have fz:=H1.out.frz
      have ck:=H1.out.kc
      have ck2:=H1.out.kc2
      go_wp2_with fail
      have D2:=hid H1.out.drew
      clear fz ck ck2
      go_region_held3 (fun w' => w'.cell? ⟨k,0,none⟩ = some (.pointer (some ⟨g,o,none⟩))) (first | assumption | with_reducible exact D2.out.kc | with_reducible exact H2.out.kc | ((repeat with_reducible refine zAp HKG ?_); first | assumption | with_reducible exact H2.out.kc)) (((with_reducible refine (zAn b B (wS p) 1 2 _ D2.out.st).mono ?_); rintro e w2 ⟨rfl,h2,k2⟩; have H2:=hid (D2.out.word h2 k2); clear h2 k2; have fz:=H2.out.frz; obtain ⟨y4,c4⟩:=H2.out.cell (j:=4) (show 4 < 5 from by decide)))
      go_wp2_with fail
      go_ret2
      exact ⟨_,fun x => { x with typ:=noV 1 2 (wS p) },_,E.out,rfl,(H2.out.put (j:=4) (show 4 < 5 from by decide) _ rfl)⟩
     | false =>
      have E:Hid (∀ r,(redF' false mk) r p = (wV p,none,mk (fun x => x) r,(wS p).fail)):=hid (fun r => by rw [hmk]; unfold redF'; rw [e0,e1,e2,e3]; rfl)
      have fz:=H1.out.frz
      have ck:=H1.out.kc
      have ck2:=H1.out.kc2
      have fb:=H1.out.st.frz 2
      have cb:=H1.out.st.bad1
      go_wp2_with fail
      go_ret2
      exact ⟨_,fun x => x,_,E.out,rfl,H1.out.bad⟩
    | false =>
     rw [e3] at q3
     have E:Hid (∀ r,(redF' typed mk) r p = (wV p,none,mk (fun x => x) r,(wS p).fail)):=hid (fun r => by rw [hmk]; unfold redF'; rw [e0,e1,e2,e3]; rfl)
     have fz:=H1.out.frz
     have ck:=H1.out.kc
     have ck2:=H1.out.kc2
     have fb:=H1.out.st.frz 2
     have cb:=H1.out.st.bad1
     go_wp2_with fail
     go_ret2
     exact ⟨_,fun x => x,_,E.out,rfl,H1.out.bad⟩
theorem clause_form:FormC .clause:=by
 intro g B b k w0 w r K kb p fv h hf he hs hr hk
 obtain ⟨m0,m,em,gg,cap,l0,x,q,e1,e2,rfl,e4⟩:=hf
 have ep:=btR_maps em
 have hrow:rM m = rowE 138 7 Cl.C m.v (l0 ++ [x]):=by rw [← e1]; rfl
 rw [hrow] at ep
 obtain ⟨cur,hc,hclose⟩:=h.last (E:=138) (n:=7) (C:=Cl.C) (v:=m.v) (l0:=l0) (x:=x) (gg:=gg) (cap:=cap) (K0:=[(q,.cells #[.pointer (some ⟨gg,l0.length * 7,none⟩)] 216 (0,0))]) ep e2 (by decide) (fun _ => rfl) (fun k hk => by obtain rfl:=List.mem_singleton.1 hk; exact e4)
 refine ⟨249,#[],#[.pointer (some ⟨q,0,none⟩)],rfl,enters_of Tryz.func249 (by kernel_rfl) rfl,?_⟩
 refine (clause1_any q gg (l0.length * 7) b B cur x kb p w hc (h.toBR.env he) hs).mono ?_
 intro e w' hp
 have hbt:∀ φ:Cl→Cl,btR { r with maps:=m0 ++ [⟨m.name,m.v,l0 ++ [φ x]⟩] } = ((btR r).take 14 ++ (r.lists.map rP ++ m0.map rM)) ++ rowE 138 7 Cl.C m.v (l0 ++ [φ x]) :: r.acls.map rA:=by
  intro φ
  have q1:=btR_maps (r:={ r with maps:=m0 ++ [⟨m.name,m.v,l0 ++ [φ x]⟩] }) (m0:=m0) (m:=⟨m.name,m.v,l0 ++ [φ x]⟩) rfl
  rw [q1]
  have q2:(btR { r with maps:=m0 ++ [⟨m.name,m.v,l0 ++ [φ x]⟩] }).take 14 = (btR r).take 14:=by
   have q3:rowE 84 2 RMap.C r.mapsV (m0 ++ [⟨m.name,m.v,l0 ++ [φ x]⟩]) = rowE 84 2 RMap.C r.mapsV r.maps:=by rw [em]; exact rowE_last rfl
   simp only [btR,List.take_succ_cons,List.take_zero,q3]
  rw [q2]
  rfl
 refine zGf (mkR:=fun φ => { r with maps:=m0 ++ [⟨m.name,m.v,l0 ++ [φ x]⟩] }) (fun _ _ => rfl) (fun φ p' w' hc' => hclose (φ x) p' w' _ hc' rfl (hbt φ)) (fun φ => ?_) (fun φ _ => ⟨rfl,rfl,rfl,(by rw [em]; simp),rfl,rfl⟩) (fun φ K0 hq => ?_) hp
 ·show { r.plain with maps:=lastF (fun y => { y with clauses:=lastF φ y.clauses }) (r.maps.map fun x:RMap => ⟨x.name,.slice none 0 0,x.clauses⟩) } = { r.plain with maps:=(m0 ++ [(⟨m.name,m.v,l0 ++ [φ x]⟩:RMap)]).map fun x:RMap => ⟨x.name,.slice none 0 0,x.clauses⟩ }
  simp only [em,e1,List.map_append,List.map_cons,List.map_nil,zDc]
 ·obtain ⟨m1,m2,em', hq⟩:=hq
  rw [em] at em'
  obtain ⟨rfl,e5⟩:=List.append_inj' em' rfl
  injection e5 with e5 _
  subst e5
  exact ⟨m0,_,rfl,ElV.stay hq rfl (by rw [e1]; simp) (fun _ h => h)⟩
theorem RdV.stay {typed:Bool} {v:Value} {l l' : List Rd} {K:Kept} {fv:Value} (h:RdV typed v l K fv) (hl:l'.length = l.length):RdV typed v l' K fv:=by
 obtain ⟨gg,cap,l0,x,k,k2,e1,e2,e3,e4,e5⟩:=h
 obtain ⟨l1,y,e6,e7⟩:=snoc_of hl e1
 exact ⟨gg,cap,l1,y,k,k2,e6,by rw [e7]; exact e2,e3,by rw [e7]; exact e4,e5⟩
theorem redLS_form:FormC .redLS:=by
 intro g B b k w0 w r K kb p fv h hf he hs hr hk
 obtain ⟨gg,cap,l0,x,q,q2,e1,e2,rfl,e4,e5⟩:=hf
 obtain ⟨cur,hc,hclose⟩:=h.last (E:=230) (n:=5) (C:=Rd.C) (v:=r.lsRedV) (l0:=l0) (x:=x) (gg:=gg) (cap:=cap) (K0:=[(q,.cells #[.pointer (some ⟨gg,l0.length * 5,none⟩)] 301 (0,0)),(q2,.cells #[.bool true] 4 (0,0))]) (pre:=(btR r).take 4) (post:=(btR r).drop 5) (by rw [← e1]; rfl) e2 (by decide) (fun _ => rfl) (fun k hk => by
  simp only [List.mem_cons,List.not_mem_nil,or_false] at hk
  rcases hk with rfl | rfl
  ·exact e4
  ·exact e5)
 refine ⟨273,#[],#[.pointer (some ⟨q,0,none⟩),.pointer (some ⟨q2,0,none⟩)],rfl,enters_of Tryz.func273 (by kernel_rfl) rfl,?_⟩
 refine (zKd (fun g r => { r with lsRed:=lastF g r.lsRed }) (fun r => by rw [zFv]) true q q2 gg (l0.length * 5) b B cur x kb p w hc (h.toBR.env he) hs).mono ?_
 intro e w' hp
 refine zGf (mkR:=fun φ => { r with lsRed:=l0 ++ [φ x] }) (fun _ _ => rfl) (fun φ p' w' hc' => hclose (φ x) p' w' _ hc' rfl rfl) (fun φ => ?_) (fun φ _ => ⟨rfl,rfl,rfl,rfl,rfl,rfl⟩) (fun φ K0 hq => RdV.stay hq (by rw [e1]; simp)) hp
 show { r.plain with lsRed:=lastF φ r.lsRed } = _
 rw [e1,zDc]
 rfl
theorem redDV_form:FormC .redDV:=by
 intro g B b k w0 w r K kb p fv h hf he hs hr hk
 obtain ⟨gg,cap,l0,x,q,q2,e1,e2,rfl,e4,e5⟩:=hf
 obtain ⟨cur,hc,hclose⟩:=h.last (E:=230) (n:=5) (C:=Rd.C) (v:=r.dvRedV) (l0:=l0) (x:=x) (gg:=gg) (cap:=cap) (K0:=[(q,.cells #[.pointer (some ⟨gg,l0.length * 5,none⟩)] 301 (0,0)),(q2,.cells #[.bool false] 4 (0,0))]) (pre:=(btR r).take 5) (post:=(btR r).drop 6) (by rw [← e1]; rfl) e2 (by decide) (fun _ => rfl) (fun k hk => by
  simp only [List.mem_cons,List.not_mem_nil,or_false] at hk
  rcases hk with rfl | rfl
  ·exact e4
  ·exact e5)
 refine ⟨273,#[],#[.pointer (some ⟨q,0,none⟩),.pointer (some ⟨q2,0,none⟩)],rfl,enters_of Tryz.func273 (by kernel_rfl) rfl,?_⟩
 refine (zKd (fun g r => { r with dvRed:=lastF g r.dvRed }) (fun r => by rw [zFv]) false q q2 gg (l0.length * 5) b B cur x kb p w hc (h.toBR.env he) hs).mono ?_
 intro e w' hp
 refine zGf (mkR:=fun φ => { r with dvRed:=l0 ++ [φ x] }) (fun _ _ => rfl) (fun φ p' w' hc' => hclose (φ x) p' w' _ hc' rfl rfl) (fun φ => ?_) (fun φ _ => ⟨rfl,rfl,rfl,rfl,rfl,rfl⟩) (fun φ K0 hq => RdV.stay hq (by rw [e1]; simp)) hp
 show { r.plain with dvRed:=lastF φ r.dvRed } = _
 rw [e1,zDc]
 rfl
theorem redPV_form:FormC .redPV:=by
 intro g B b k w0 w r K kb p fv h hf he hs hr hk
 obtain ⟨gg,cap,l0,x,q,q2,e1,e2,rfl,e4,e5⟩:=hf
 obtain ⟨cur,hc,hclose⟩:=h.last (E:=230) (n:=5) (C:=Rd.C) (v:=r.pvRedV) (l0:=l0) (x:=x) (gg:=gg) (cap:=cap) (K0:=[(q,.cells #[.pointer (some ⟨gg,l0.length * 5,none⟩)] 301 (0,0)),(q2,.cells #[.bool false] 4 (0,0))]) (pre:=(btR r).take 10) (post:=(btR r).drop 11) (by rw [← e1]; rfl) e2 (by decide) (fun _ => rfl) (fun k hk => by
  simp only [List.mem_cons,List.not_mem_nil,or_false] at hk
  rcases hk with rfl | rfl
  ·exact e4
  ·exact e5)
 refine ⟨273,#[],#[.pointer (some ⟨q,0,none⟩),.pointer (some ⟨q2,0,none⟩)],rfl,enters_of Tryz.func273 (by kernel_rfl) rfl,?_⟩
 refine (zKd (fun g r => { r with pvRed:=lastF g r.pvRed }) (fun r => by rw [zFv]) false q q2 gg (l0.length * 5) b B cur x kb p w hc (h.toBR.env he) hs).mono ?_
 intro e w' hp
 refine zGf (mkR:=fun φ => { r with pvRed:=l0 ++ [φ x] }) (fun _ _ => rfl) (fun φ p' w' hc' => hclose (φ x) p' w' _ hc' rfl rfl) (fun φ => ?_) (fun φ _ => ⟨rfl,rfl,rfl,rfl,rfl,rfl⟩) (fun φ K0 hq => RdV.stay hq (by rw [e1]; simp)) hp
 show { r.plain with pvRed:=lastF φ r.pvRed } = _
 rw [e1,zDc]
 rfl
def Cu (c B:Nat) (lines:Int) (t:List Tk) (w:World):Prop:=B≤c∧∃ v,w.heap[c]? = some (.cells #[v,.int .i64 lines] 118 (0,0))∧Slc w B 2 v t.length (t.flatMap zDn)∧∃ A p,v = .slice A t.length p∧t.length≤p
section
variable {c B : Nat} {lines : Int} {t r : List Tk} {x : Tk} {w w' : World}
theorem Cu.lt (h:Cu c B lines t w):c < w.heap.size:=by obtain ⟨-,v,hv, -⟩:=h; exact zAw hv
theorem Cu.rest0 (h:Cu c B lines t w):∃ A p,w.cell? ⟨c,0,none⟩ = some (.slice A t.length p):=by
 obtain ⟨-,v,hv, -,A,p,rfl, -⟩:=h; exact ⟨A,p,by rw [Lib.cell_of_heap hv]; rfl⟩
theorem Cu.linesC (h:Cu c B lines t w):w.cell? ⟨c,1,none⟩ = some (.int .i64 lines):=by
 obtain ⟨-,v,hv, -⟩:=h; rw [Lib.cell_of_heap hv]; rfl
theorem Cu.other (h:Cu c B lines t w) {row:Option Nat} (hg:w.grownBy w' row) (hr:∀ g,row = some g→B≤g∧g≠c):Cu c B lines t w' := by
 obtain ⟨h1,v,hv,hs,hc⟩:=h
 refine ⟨h1,v,(hg.block c (zAw hv) (fun e => (hr c e.symm).2 rfl)).trans hv,hs.grown hg (fun k hk g o p e hn => ?_),hc⟩
 obtain ⟨A,p', e', -, -, -,hx⟩:=hs
 obtain ⟨g', o', rfl,hgB, -⟩:=hx hn
 rw [e'] at e
 injection e with e1 _ _
 injection e1 with e1
 injection e1 with e1 _ _
 have:=(hr k hk).1
 omega
theorem Cu.keep (h:Cu c B lines t w) (hb:Below w.heap.size w w'):Cu c B lines t w' := h.other (zDy (Nat.le_refl _) hb none) (fun g e => by cases e)
theorem Cu.popped (h:Cu c B lines (x :: r) w) :
  ∃ g o p,w.heap[c]? = some (.cells #[.slice (some ⟨g,o,none⟩) (r.length + 1) p,.int .i64 lines] 118 (0,0))∧w.cell? ⟨g,o,none⟩ = some (.int .i64 x.1)∧w.cell? ⟨g,o + 1,none⟩ = some (strV x.2)∧w.rangeAt g o (zDn x)∧r.length + 1≤p∧r.length + 1≤maxLen ∧
   ∀ A', (p≠1→A' = some ⟨g,o + 2,none⟩)→A' ≠ none→Cu c B lines r (w.setCell ⟨c,0,none⟩ (.slice A' r.length (p - 1)))∧w.grownBy (w.setCell ⟨c,0,none⟩ (.slice A' r.length (p - 1))) (some c):=by
 obtain ⟨h1,v,hv,hs,A,p,rfl,hc⟩:=h
 obtain ⟨A0,c0,e,hm,hl,hA,hx⟩:=hs
 cases e
 obtain ⟨g,o,rfl,hg,hcell⟩:=hx (by simp)
 have hgc:g≠c:=by omega
 have hgr:=fun u => zAy w c 0 u
 refine ⟨g,o,p,hv,by simpa using hcell 0 (.int .i64 x.1) rfl,by simpa using hcell 1 (strV x.2) rfl,fun j u hu => ?_,by simpa using hc,by simpa using hm,fun A' hA' hn => ⟨⟨h1,_,Lib.heap_setCell_same (i:=0) hv _,?_,A', p - 1,rfl,?_⟩,hgr _⟩⟩
 ·have hj:j < (zDn x).length:=by
   rcases Nat.lt_or_ge j (zDn x).length with h | h
   ·exact h
   ·rw [List.getElem?_eq_none h] at hu; cases hu
  exact hcell j u (by rw [List.flatMap_cons,List.getElem?_append_left hj]; exact hu)
 ·refine ⟨A', p - 1,rfl,?_,by have h2:=hl; rw [List.flatMap_cons,List.length_append,show (zDn x).length = 2 from rfl,List.length_cons] at h2; omega,fun h => absurd h hn,fun hr => ⟨g,o + 2,hA' ?_,hg,fun j u hu => ?_⟩⟩
  ·simp only [List.length_cons] at hm; show r.length≤_; omega
  ·simp only [List.length_cons] at hc; have:0 < r.length:=hr; omega
  ·have:=hcell (j + 2) u (by simpa [zDn] using hu)
   refine (hgr _).cell (a:=⟨g,o + 2 + j,none⟩) ?_ (fun e => hgc (by injection e))
   rw [show o + 2 + j = o + (j + 2) from by omega]
   exact this
 ·simp only [List.length_cons] at hc; show r.length≤_; omega
end
def SeqP (c B:Nat) (lines:Int) (s:Except Int (List Nd × List Tk)) (w:World) (e:Ending) (w' : World):Prop:=w.grownBy w' (some c)∧match s with
 | .error l => e = .returned (.tuple #[.slice none 0 0,.int .i64 l,.int .i64 2])
 | .ok (ns,t) => ∃ v,e = .returned (.tuple #[v,.int .i64 0,.int .i64 0])∧NdV w' (w.heap.size≤·) v ns∧Cu c B lines t w'
def NodeP (c B:Nat) (lines:Int) (s:Except Int (Nd × List Tk)) (w:World) (e:Ending) (w' : World):Prop:=w.grownBy w' (some c)∧match s with
 | .error l => e = .returned (.tuple #[.agg #[.int .i64 0,.slice none 0 0,.bool false,.slice none 0 0],.int .i64 l,.int .i64 2])
 | .ok (x,t) => ∃ cs:Array Value,e = .returned (.tuple #[.agg cs,.int .i64 0,.int .i64 0])∧NdC w' (w.heap.size≤·) x cs.toList∧Cu c B lines t w'
theorem seq_len (lines:Int):∀ n,(∀ inner t ns ks r,seqN lines n inner t ns = .ok (ks,r)→r.length≤t.length∧ks.length + r.length≤ns.length + t.length)∧(∀ at_ t ws x r,nodeN lines n at_ t ws = .ok (x,r)→r.length < t.length):=by
 intro n
 induction n with
 | zero => exact ⟨fun _ _ _ _ _ h => (by rw [seqN] at h; cases h),fun _ _ _ _ _ h => (by rw [nodeN] at h; cases h)⟩
 | succ n ih =>
  refine ⟨fun inner t ns ks r h => ?_,fun at_ t ws x r h => ?_⟩
  ·cases t with
   | nil =>
    rw [seqN] at h
    split at h
    ·cases h
    ·cases h; exact ⟨Nat.le_refl _,Nat.le_refl _⟩
   | cons y t =>
    rw [seqN] at h
    split at h
    ·cases h; simp only [List.length_cons]; omega
    ·revert h
     cases hn:nodeN lines n y.1 (y :: t) [] with
     | error l => intro h; cases h
     | ok a =>
      intro h
      have h1:=ih.2 _ _ _ _ _ hn
      have h2:=ih.1 _ _ _ _ _ h
      simp only [List.length_append,List.length_cons,List.length_nil] at *
      omega
  ·cases t with
   | nil => rw [nodeN] at h; cases h
   | cons y t =>
    rw [nodeN] at h
    split at h
    ·have:=ih.2 _ _ _ _ _ h
     simp only [List.length_cons]; omega
    ·split at h
     ·cases h
     ·split at h
      ·cases h; simp
      ·revert h
       cases hs:seqN lines n true t [] with
       | error l => intro h; cases h
       | ok a =>
        intro h
        cases h
        have:=(ih.1 _ _ _ _ _ hs).1
        simp only [List.length_cons]; omega
end Go.Proofs.YtdlgnhefpoalnaaGreatDoor
