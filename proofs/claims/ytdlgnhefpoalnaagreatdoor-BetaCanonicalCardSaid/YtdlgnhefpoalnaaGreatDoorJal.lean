/- The error of a router does not depend on where its slices lie. No condition. -/
import Derived.Test.YtdlgnhefpoalnaaGreatDoorJak
namespace Go.Proofs.YtdlgnhefpoalnaaGreatDoor
open Lib (hid)
open Go.RowKit
def secsE (r:Rt):List Int:=[ifsE r.ifs,plsE r.lists,mapsE r.lists r.maps,aclsE r.acls,natsE r.acls r.nat,zAj (filtE r.acls) r.ifs,statsE r.ifs r.stat,lnkE r,dvE r,pvE r]
def zBq (r:Rt):Int:=if !nameB r.name then 3 else if !zAg r.asn 0 65535 then 1 else zAj (fun e => e) (secsE r)
set_option maxRecDepth 100000 in
set_option maxHeartbeats 8000000 in
theorem zJa (r:Rt) (w:World) (B:Nat) (h:r.at w B) (hB:B≤w.heap.size) (hf:r.fit):Calls Tryz.prog 26 #[.agg r.C] w fun e w' => e = .returned (.int .i64 (zBq r))∧Below w.heap.size w w' := by
 have H0:=hid (RB.start r w)
 have HR:=hid h
 unfold Rt.fit at hf
 have HFT:=hid hf
 have HBB:=hid hB
 clear h hf hB
 have E:Hid (zBq r = if !nameB r.name then 3 else if !zAg r.asn 0 65535 then 1 else zAj (fun e => e) (secsE r)):=hid rfl
 generalize zBq r = res at E ⊢
 have c0:(w.alloc (.cells r.C 41)).cell? ⟨w.heap.size,0,none⟩ = some (.string (str r.name)):=H0.out.h.cell 0
 have c1:(w.alloc (.cells r.C 41)).cell? ⟨w.heap.size,1,none⟩ = some (.int .i64 r.asn):=H0.out.h.cell 1
 go_enter Tryz.func26,Tryz.ntmps26
 go_wp2_with fail
 generalize hwz:w.alloc (.cells r.C 41) = wz at *
 clear hwz
 refine (nameL r.name _).mono ?_
 rintro e w' ⟨rfl,rfl⟩
 cases hn:nameB r.name with
 | false =>
  go_wp2_with fail
  go_ret
  exact ⟨zAe (by rw [E.out,hn]; rfl),H0.out.b⟩
 | true =>
 cases hw:zAg r.asn 0 65535 with
 | false =>
  go_wp2_with (go_at_call 88; refine (zAl _ _ _ _).mono ?_; rintro e w' ⟨rfl,rfl⟩)
  go_ret
  exact ⟨zAe (by rw [E.out,hn,hw]; rfl),H0.out.b⟩
 | true =>
 have ES:Hid (zAj (fun e => e) (secsE r) = res):=hid (by rw [E.out,hn,hw]; rfl)
 clear E hn
 go_wp2_with (go_at_call 88; refine (zAl _ _ _ _).mono ?_; rintro e w' ⟨rfl,rfl⟩)
 have HC0:Hid (HasC 51 wz.heap.size #[.func (.func 89) #[] #[],.func (.func 90) #[] #[],.func (.func 91) #[] #[],.func (.func 92) #[] #[],.func (.func 93) #[] #[],.func (.func 94) #[] #[],.func (.func 95) #[] #[],.func (.func 96) #[] #[],.func (.func 97) #[] #[],.func (.func 98) #[] #[]] (wz.alloc (.cells #[.func (.func 89) #[] #[],.func (.func 90) #[] #[],.func (.func 91) #[] #[],.func (.func 92) #[] #[],.func (.func 93) #[] #[],.func (.func 94) #[] #[],.func (.func 95) #[] #[],.func (.func 96) #[] #[],.func (.func 97) #[] #[],.func (.func 98) #[] #[]] 51))):=hid (HasC.new _ _ _)
 have H1:=hid (H0.out.keep ((Below.refl _ _).alloc (Nat.le_refl _) (.cells #[.func (.func 89) #[] #[],.func (.func 90) #[] #[],.func (.func 91) #[] #[],.func (.func 92) #[] #[],.func (.func 93) #[] #[],.func (.func 94) #[] #[],.func (.func 95) #[] #[],.func (.func 96) #[] #[],.func (.func 97) #[] #[],.func (.func 98) #[] #[]] 51)))
 clear c0 c1 hw H0
 generalize hwy:wz.alloc (.cells #[.func (.func 89) #[] #[],.func (.func 90) #[] #[],.func (.func 91) #[] #[],.func (.func 92) #[] #[],.func (.func 93) #[] #[],.func (.func 94) #[] #[],.func (.func 95) #[] #[],.func (.func 96) #[] #[],.func (.func 97) #[] #[],.func (.func 98) #[] #[]] 51) = wy at HC0 H1 ⊢
 clear hwy
 generalize wz.heap.size = gs at HC0 ⊢
 go_loopg [18] 10 (fun gh ix wr => ∃ k:Nat,k + gh = 10∧ix = .int .i64 k∧Hid (RB r w wr)∧Hid (HasC 51 gs #[.func (.func 89) #[] #[],.func (.func 90) #[] #[],.func (.func 91) #[] #[],.func (.func 92) #[] #[],.func (.func 93) #[] #[],.func (.func 94) #[] #[],.func (.func 95) #[] #[],.func (.func 96) #[] #[],.func (.func 97) #[] #[],.func (.func 98) #[] #[]] wr)∧Hid (zAj (fun e => e) ((secsE r).drop k) = res))
 case atStart => exact ⟨0,by omega,rfl,H1,HC0,ES⟩
 case round =>
  obtain ⟨k,hk,rfl,HW,HC,HG⟩:=hrel
  clear HC0 H1 ES
  by_cases hlt:k < 10
  case neg =>
   obtain rfl:k = 10:=by omega
   have E:Hid (res = 0):=hid HG.out.symm
   go_wp2_with fail
   go_ret
   exact ⟨zAe E.out.symm,HW.out.b⟩
  rcases (show k = 0∨k = 1∨k = 2∨k = 3∨k = 4∨k = 5∨k = 6∨k = 7∨k = 8∨k = 9 by omega) with rfl | rfl | rfl | rfl | rfl | rfl | rfl | rfl | rfl | rfl
  ·have ck:wr.cell? ⟨gs,0,none⟩ = some (.func (.func 89) #[] #[]):=HC.out.cell 0
   go_wp2_with (first | (refine zAa rfl 41 _ rfl rfl HW.out.h.range Tryz.rowRt Tryz.sizeRt ?_))
   with_reducible refine (zJx r wr B (HR.out.below (HW.out.b.mono HBB.out)) (Nat.le_trans HBB.out HW.out.b.size) HFT.out.1).mono ?_
   rintro e w6 ⟨rfl,hb⟩
   have H6:=hid (HW.out.keep hb)
   have HC6:=hid (HC.out.keep hb)
   clear hb HW HC ck
   obtain ⟨x,hx⟩:∃ x,ifsE r.ifs = x:=⟨_,rfl⟩
   have HG2:Hid (res = if x = 0 then zAj (fun e => e) ((secsE r).drop 1) else x):=hid (by rw [← HG.out,← hx]; rfl)
   rw [hx]
   clear hx HG
   by_cases he:x = 0
   case neg =>
    have E:Hid (res = x):=hid (by rw [HG2.out,if_neg he])
    have dn:(x != 0) = true:=by simpa using he
    clear he
    go_wp2_with fail
    go_ret
    exact ⟨zAe E.out.symm,H6.out.b⟩
   have E:Hid (zAj (fun e => e) ((secsE r).drop 1) = res):=hid (by rw [HG2.out,if_pos he])
   subst he
   go_wp2_with fail
   go_roundg 9
   case measure => omega
   case rel => exact ⟨1,by omega,by go_num,H6,HC6,E⟩
  ·have ck:wr.cell? ⟨gs,1,none⟩ = some (.func (.func 90) #[] #[]):=HC.out.cell 1
   go_wp2_with (first | (refine zAa rfl 41 _ rfl rfl HW.out.h.range Tryz.rowRt Tryz.sizeRt ?_))
   with_reducible refine (zJp r wr B (HR.out.below (HW.out.b.mono HBB.out)) (Nat.le_trans HBB.out HW.out.b.size) HFT.out.2.1).mono ?_
   rintro e w6 ⟨rfl,hb⟩
   have H6:=hid (HW.out.keep hb)
   have HC6:=hid (HC.out.keep hb)
   clear hb HW HC ck
   obtain ⟨x,hx⟩:∃ x,plsE r.lists = x:=⟨_,rfl⟩
   have HG2:Hid (res = if x = 0 then zAj (fun e => e) ((secsE r).drop 2) else x):=hid (by rw [← HG.out,← hx]; rfl)
   rw [hx]
   clear hx HG
   by_cases he:x = 0
   case neg =>
    have E:Hid (res = x):=hid (by rw [HG2.out,if_neg he])
    have dn:(x != 0) = true:=by simpa using he
    clear he
    go_wp2_with fail
    go_ret
    exact ⟨zAe E.out.symm,H6.out.b⟩
   have E:Hid (zAj (fun e => e) ((secsE r).drop 2) = res):=hid (by rw [HG2.out,if_pos he])
   subst he
   go_wp2_with fail
   go_roundg 8
   case measure => omega
   case rel => exact ⟨2,by omega,by go_num,H6,HC6,E⟩
  ·have ck:wr.cell? ⟨gs,2,none⟩ = some (.func (.func 91) #[] #[]):=HC.out.cell 2
   go_wp2_with (first | (refine zAa rfl 41 _ rfl rfl HW.out.h.range Tryz.rowRt Tryz.sizeRt ?_))
   with_reducible refine (zLa r wr B (HR.out.below (HW.out.b.mono HBB.out)) (Nat.le_trans HBB.out HW.out.b.size) ).mono ?_
   rintro e w6 ⟨rfl,hb⟩
   have H6:=hid (HW.out.keep hb)
   have HC6:=hid (HC.out.keep hb)
   clear hb HW HC ck
   obtain ⟨x,hx⟩:∃ x,mapsE r.lists r.maps = x:=⟨_,rfl⟩
   have HG2:Hid (res = if x = 0 then zAj (fun e => e) ((secsE r).drop 3) else x):=hid (by rw [← HG.out,← hx]; rfl)
   rw [hx]
   clear hx HG
   by_cases he:x = 0
   case neg =>
    have E:Hid (res = x):=hid (by rw [HG2.out,if_neg he])
    have dn:(x != 0) = true:=by simpa using he
    clear he
    go_wp2_with fail
    go_ret
    exact ⟨zAe E.out.symm,H6.out.b⟩
   have E:Hid (zAj (fun e => e) ((secsE r).drop 3) = res):=hid (by rw [HG2.out,if_pos he])
   subst he
   go_wp2_with fail
   go_roundg 7
   case measure => omega
   case rel => exact ⟨3,by omega,by go_num,H6,HC6,E⟩
  ·have ck:wr.cell? ⟨gs,3,none⟩ = some (.func (.func 92) #[] #[]):=HC.out.cell 3
   go_wp2_with (first | (refine zAa rfl 41 _ rfl rfl HW.out.h.range Tryz.rowRt Tryz.sizeRt ?_))
   with_reducible refine (checkACLs_any r wr B (HR.out.below (HW.out.b.mono HBB.out)) (Nat.le_trans HBB.out HW.out.b.size) HFT.out.2.2.2.1).mono ?_
   rintro e w6 ⟨rfl,hb⟩
   have H6:=hid (HW.out.keep hb)
   have HC6:=hid (HC.out.keep hb)
   clear hb HW HC ck
   obtain ⟨x,hx⟩:∃ x,aclsE r.acls = x:=⟨_,rfl⟩
   have HG2:Hid (res = if x = 0 then zAj (fun e => e) ((secsE r).drop 4) else x):=hid (by rw [← HG.out,← hx]; rfl)
   rw [hx]
   clear hx HG
   by_cases he:x = 0
   case neg =>
    have E:Hid (res = x):=hid (by rw [HG2.out,if_neg he])
    have dn:(x != 0) = true:=by simpa using he
    clear he
    go_wp2_with fail
    go_ret
    exact ⟨zAe E.out.symm,H6.out.b⟩
   have E:Hid (zAj (fun e => e) ((secsE r).drop 4) = res):=hid (by rw [HG2.out,if_pos he])
   subst he
   go_wp2_with fail
   go_roundg 6
   case measure => omega
   case rel => exact ⟨4,by omega,by go_num,H6,HC6,E⟩
  ·have ck:wr.cell? ⟨gs,4,none⟩ = some (.func (.func 93) #[] #[]):=HC.out.cell 4
   go_wp2_with (first | (refine zAa rfl 41 _ rfl rfl HW.out.h.range Tryz.rowRt Tryz.sizeRt ?_))
   with_reducible refine (checkNAT_any r wr B (HR.out.below (HW.out.b.mono HBB.out)) (Nat.le_trans HBB.out HW.out.b.size) HFT.out.2.2.2.2.1).mono ?_
   rintro e w6 ⟨rfl,hb⟩
   have H6:=hid (HW.out.keep hb)
   have HC6:=hid (HC.out.keep hb)
   clear hb HW HC ck
   obtain ⟨x,hx⟩:∃ x,natsE r.acls r.nat = x:=⟨_,rfl⟩
   have HG2:Hid (res = if x = 0 then zAj (fun e => e) ((secsE r).drop 5) else x):=hid (by rw [← HG.out,← hx]; rfl)
   rw [hx]
   clear hx HG
   by_cases he:x = 0
   case neg =>
    have E:Hid (res = x):=hid (by rw [HG2.out,if_neg he])
    have dn:(x != 0) = true:=by simpa using he
    clear he
    go_wp2_with fail
    go_ret
    exact ⟨zAe E.out.symm,H6.out.b⟩
   have E:Hid (zAj (fun e => e) ((secsE r).drop 5) = res):=hid (by rw [HG2.out,if_pos he])
   subst he
   go_wp2_with fail
   go_roundg 5
   case measure => omega
   case rel => exact ⟨5,by omega,by go_num,H6,HC6,E⟩
  ·have ck:wr.cell? ⟨gs,5,none⟩ = some (.func (.func 94) #[] #[]):=HC.out.cell 5
   go_wp2_with (first | (refine zAa rfl 41 _ rfl rfl HW.out.h.range Tryz.rowRt Tryz.sizeRt ?_))
   with_reducible refine (zMq r wr B (HR.out.below (HW.out.b.mono HBB.out)) (Nat.le_trans HBB.out HW.out.b.size) ).mono ?_
   rintro e w6 ⟨rfl,hb⟩
   have H6:=hid (HW.out.keep hb)
   have HC6:=hid (HC.out.keep hb)
   clear hb HW HC ck
   obtain ⟨x,hx⟩:∃ x,zAj (filtE r.acls) r.ifs = x:=⟨_,rfl⟩
   have HG2:Hid (res = if x = 0 then zAj (fun e => e) ((secsE r).drop 6) else x):=hid (by rw [← HG.out,← hx]; rfl)
   rw [hx]
   clear hx HG
   by_cases he:x = 0
   case neg =>
    have E:Hid (res = x):=hid (by rw [HG2.out,if_neg he])
    have dn:(x != 0) = true:=by simpa using he
    clear he
    go_wp2_with fail
    go_ret
    exact ⟨zAe E.out.symm,H6.out.b⟩
   have E:Hid (zAj (fun e => e) ((secsE r).drop 6) = res):=hid (by rw [HG2.out,if_pos he])
   subst he
   go_wp2_with fail
   go_roundg 4
   case measure => omega
   case rel => exact ⟨6,by omega,by go_num,H6,HC6,E⟩
  ·have ck:wr.cell? ⟨gs,6,none⟩ = some (.func (.func 95) #[] #[]):=HC.out.cell 6
   go_wp2_with (first | (refine zAa rfl 41 _ rfl rfl HW.out.h.range Tryz.rowRt Tryz.sizeRt ?_))
   with_reducible refine (zMs r wr B (HR.out.below (HW.out.b.mono HBB.out)) (Nat.le_trans HBB.out HW.out.b.size) HFT.out.2.2.2.2.2.1).mono ?_
   rintro e w6 ⟨rfl,hb⟩
   have H6:=hid (HW.out.keep hb)
   have HC6:=hid (HC.out.keep hb)
   clear hb HW HC ck
   obtain ⟨x,hx⟩:∃ x,statsE r.ifs r.stat = x:=⟨_,rfl⟩
   have HG2:Hid (res = if x = 0 then zAj (fun e => e) ((secsE r).drop 7) else x):=hid (by rw [← HG.out,← hx]; rfl)
   rw [hx]
   clear hx HG
   by_cases he:x = 0
   case neg =>
    have E:Hid (res = x):=hid (by rw [HG2.out,if_neg he])
    have dn:(x != 0) = true:=by simpa using he
    clear he
    go_wp2_with fail
    go_ret
    exact ⟨zAe E.out.symm,H6.out.b⟩
   have E:Hid (zAj (fun e => e) ((secsE r).drop 7) = res):=hid (by rw [HG2.out,if_pos he])
   subst he
   go_wp2_with fail
   go_roundg 3
   case measure => omega
   case rel => exact ⟨7,by omega,by go_num,H6,HC6,E⟩
  ·have ck:wr.cell? ⟨gs,7,none⟩ = some (.func (.func 96) #[] #[]):=HC.out.cell 7
   go_wp2_with (first | (refine zAa rfl 41 _ rfl rfl HW.out.h.range Tryz.rowRt Tryz.sizeRt ?_))
   with_reducible refine (zLc r wr B (HR.out.below (HW.out.b.mono HBB.out)) (Nat.le_trans HBB.out HW.out.b.size) HFT.out.2.2.2.2.2.2.1).mono ?_
   rintro e w6 ⟨rfl,hb⟩
   have H6:=hid (HW.out.keep hb)
   have HC6:=hid (HC.out.keep hb)
   clear hb HW HC ck
   obtain ⟨x,hx⟩:∃ x,lnkE r = x:=⟨_,rfl⟩
   have HG2:Hid (res = if x = 0 then zAj (fun e => e) ((secsE r).drop 8) else x):=hid (by rw [← HG.out,← hx]; rfl)
   rw [hx]
   clear hx HG
   by_cases he:x = 0
   case neg =>
    have E:Hid (res = x):=hid (by rw [HG2.out,if_neg he])
    have dn:(x != 0) = true:=by simpa using he
    clear he
    go_wp2_with fail
    go_ret
    exact ⟨zAe E.out.symm,H6.out.b⟩
   have E:Hid (zAj (fun e => e) ((secsE r).drop 8) = res):=hid (by rw [HG2.out,if_pos he])
   subst he
   go_wp2_with fail
   go_roundg 2
   case measure => omega
   case rel => exact ⟨8,by omega,by go_num,H6,HC6,E⟩
  ·have ck:wr.cell? ⟨gs,8,none⟩ = some (.func (.func 97) #[] #[]):=HC.out.cell 8
   go_wp2_with (first | (refine zAa rfl 41 _ rfl rfl HW.out.h.range Tryz.rowRt Tryz.sizeRt ?_))
   with_reducible refine (zIg r wr B (HR.out.below (HW.out.b.mono HBB.out)) (Nat.le_trans HBB.out HW.out.b.size) ).mono ?_
   rintro e w6 ⟨rfl,hb⟩
   have H6:=hid (HW.out.keep hb)
   have HC6:=hid (HC.out.keep hb)
   clear hb HW HC ck
   obtain ⟨x,hx⟩:∃ x,dvE r = x:=⟨_,rfl⟩
   have HG2:Hid (res = if x = 0 then zAj (fun e => e) ((secsE r).drop 9) else x):=hid (by rw [← HG.out,← hx]; rfl)
   rw [hx]
   clear hx HG
   by_cases he:x = 0
   case neg =>
    have E:Hid (res = x):=hid (by rw [HG2.out,if_neg he])
    have dn:(x != 0) = true:=by simpa using he
    clear he
    go_wp2_with fail
    go_ret
    exact ⟨zAe E.out.symm,H6.out.b⟩
   have E:Hid (zAj (fun e => e) ((secsE r).drop 9) = res):=hid (by rw [HG2.out,if_pos he])
   subst he
   go_wp2_with fail
   go_roundg 1
   case measure => omega
   case rel => exact ⟨9,by omega,by go_num,H6,HC6,E⟩
  ·have ck:wr.cell? ⟨gs,9,none⟩ = some (.func (.func 98) #[] #[]):=HC.out.cell 9
   go_wp2_with (first | (refine zAa rfl 41 _ rfl rfl HW.out.h.range Tryz.rowRt Tryz.sizeRt ?_))
   with_reducible refine (zKi r wr B (HR.out.below (HW.out.b.mono HBB.out)) (Nat.le_trans HBB.out HW.out.b.size) HFT.out.2.2.2.2.2.2.2.2.2.2.1 HFT.out.2.2.2.2.2.2.2.2.2.2.2.1 HFT.out.2.2.2.2.2.2.2.2.2.2.2.2.1).mono ?_
   rintro e w6 ⟨rfl,hb⟩
   have H6:=hid (HW.out.keep hb)
   have HC6:=hid (HC.out.keep hb)
   clear hb HW HC ck
   obtain ⟨x,hx⟩:∃ x,pvE r = x:=⟨_,rfl⟩
   have HG2:Hid (res = if x = 0 then zAj (fun e => e) ((secsE r).drop 10) else x):=hid (by rw [← HG.out,← hx]; rfl)
   rw [hx]
   clear hx HG
   by_cases he:x = 0
   case neg =>
    have E:Hid (res = x):=hid (by rw [HG2.out,if_neg he])
    have dn:(x != 0) = true:=by simpa using he
    clear he
    go_wp2_with fail
    go_ret
    exact ⟨zAe E.out.symm,H6.out.b⟩
   have E:Hid (zAj (fun e => e) ((secsE r).drop 10) = res):=hid (by rw [HG2.out,if_pos he])
   subst he
   go_wp2_with fail
   go_roundg 0
   case measure => omega
   case rel => exact ⟨10,by omega,by go_num,H6,HC6,E⟩
theorem zKq {α β:Type} (f:α→β) (p:β→Bool):∀ (l:List α) (i:Nat),idxF p (l.map f) i = idxF (fun x => p (f x)) l i
 | [],_ => rfl
 | x :: r,i => by
  rw [List.map_cons]
  unfold idxF
  rw [zKq f p r]
theorem lsGo_map {α β:Type} (f:α→β) (name:β→List UInt8) (len:β→Nat) (inner:β→Int) (most:Int) (all:List α):∀ (l:List α) (k:Nat),lsGo name len inner most (all.map f) (l.map f) k = lsGo (fun x => name (f x)) (fun x => len (f x)) (fun x => inner (f x)) most all l k
 | [],_ => rfl
 | x :: r,k => by
  rw [List.map_cons]
  unfold lsGo
  rw [lsGo_map f name len inner most all r,zKq]
theorem lsE_map {α β:Type} (f:α→β) (name:β→List UInt8) (len:β→Nat) (inner:β→Int) (most:Int) (l:List α):lsE name len inner most (l.map f) = lsE (fun x => name (f x)) (fun x => len (f x)) (fun x => inner (f x)) most l:=by
 unfold lsE
 rw [lsGo_map]
 simp only [List.length_map]
def erP (x:PList):PList:=⟨x.name,.slice none 0 0,x.rules⟩
def erM (x:RMap):RMap:=⟨x.name,.slice none 0 0,x.clauses⟩
def erA (x:AList):AList:=⟨x.name,.slice none 0 0,x.rules⟩
theorem idxP (n:List UInt8) (l:List PList):idxF (fun y => y.name == n) (l.map erP) 0 = idxF (fun y => y.name == n) l 0:=by rw [zKq]; rfl
theorem idxM (n:List UInt8) (l:List RMap):idxF (fun y => y.name == n) (l.map erM) 0 = idxF (fun y => y.name == n) l 0:=by rw [zKq]; rfl
theorem idxA (n:List UInt8) (l:List AList):idxF (fun y => y.name == n) (l.map erA) 0 = idxF (fun y => y.name == n) l 0:=by rw [zKq]; rfl
theorem clE_er (l:List PList):clE (l.map erP) = clE l:=by funext c; unfold clE; rw [idxP]
theorem zGp (r:Rt):zBq r.plain = zBq r:=by
 have hP:r.plain.lists = r.lists.map erP:=rfl
 have hM:r.plain.maps = r.maps.map erM:=rfl
 have hA:r.plain.acls = r.acls.map erA:=rfl
 have e1:plsE r.plain.lists = plsE r.lists:=by rw [hP]; unfold plsE; rw [lsE_map]; rfl
 have e2:mapsE r.plain.lists r.plain.maps = mapsE r.lists r.maps:=by rw [hP,hM]; unfold mapsE; rw [lsE_map,clE_er]; rfl
 have e3:aclsE r.plain.acls = aclsE r.acls:=by rw [hA]; unfold aclsE; rw [lsE_map]; rfl
 have n1:natE (r.acls.map erA) = natE r.acls:=by funext x; unfold natE; rw [idxA]
 have e4:natsE r.plain.acls r.plain.nat = natsE r.acls r.nat:=by rw [hA]; unfold natsE; rw [n1]; rfl
 have n2:filtE (r.acls.map erA) = filtE r.acls:=by funext x; unfold filtE zAx; rw [idxA,idxA]
 have e5:zAj (filtE r.plain.acls) r.plain.ifs = zAj (filtE r.acls) r.ifs:=by rw [hA,n2]; rfl
 have n3:∀ i m q t,redE (r.maps.map erM) i m q t = redE r.maps i m q t:=fun i m q t => by
  funext l
  unfold redE
  congr 1
  funext x
  unfold redF zAx
  rw [idxM]
 have e6:lnkE r.plain = lnkE r:=by unfold lnkE; rw [hM,n3]; rfl
 have n4:dnF r.plain = dnF r:=by unfold dnF zAx; rw [hP,idxP,idxP]; rfl
 have e7:dvE r.plain = dvE r:=by unfold dvE; rw [hM,n3,n4]; rfl
 have n5:nbsE (r.maps.map erM) r.plain.nb = nbsE r.maps r.nb:=by
  unfold nbsE
  have n6:nbF (r.maps.map erM) = nbF r.maps:=by funext x; unfold nbF zAx; rw [idxM,idxM]
  rw [n6]
  rfl
 have e8:pvE r.plain = pvE r:=by unfold pvE; rw [hM,n3,n5]; rfl
 unfold zBq secsE
 rw [e1,e2,e3,e4,e5,e6,e7,e8]
 rfl
end Go.Proofs.YtdlgnhefpoalnaaGreatDoor
