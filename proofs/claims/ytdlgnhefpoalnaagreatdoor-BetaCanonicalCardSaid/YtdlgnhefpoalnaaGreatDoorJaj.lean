/- The walk of checkStatics. Conditions: the router lies in memory, addresses are numbers below 2^32. -/
import Derived.Test.YtdlgnhefpoalnaaGreatDoorJai
set_option maxHeartbeats 4000000
namespace Go.Proofs.YtdlgnhefpoalnaaGreatDoor
open Lib (hid)
open Go.RowKit
def zBk {α:Type} (f:α→Int) (c:α→α→Bool) (err:Int) (all:List α):List α→Nat→Int
 | [],_ => 0
 | x :: r,k => if f x = 0 then (if (all.take k).any (c x) then err else zBk f c err all r (k + 1)) else f x
theorem zGa {α:Type} {f:α→Int} {c:α→α→Bool} {err:Int} {all:List α} {k:Nat} {R:Int} (h:k < all.length) (hR:zBk f c err all (all.drop k) k = R) :
  R = if f all[k] = 0 then (if (all.take k).any (c all[k]) then err else zBk f c err all (all.drop (k + 1)) (k + 1)) else f all[k]:=by
 rw [zLr h,zBk] at hR; exact hR.symm
theorem zFt {α:Type} {f:α→Int} {c:α→α→Bool} {err:Int} {all:List α} {k:Nat} {R:Int} (h:¬ k < all.length) (hR:zBk f c err all (all.drop k) k = R):R = 0:=by
 rw [List.drop_of_length_le (by omega),zBk] at hR; exact hR.symm
def pairE {α:Type} (most:Nat) (f:α→Int) (c:α→α→Bool) (err:Int) (l:List α):Int:=if most < l.length then 7 else zBk f c err l l 0
theorem zBp {res fx X:Int} (h:res = if fx = 0 then X else fx) (h2:fx≠0):res = fx:=by rw [h,if_neg h2]
theorem zGg {res fx X:Int} (h:res = if fx = 0 then X else fx) (h2:fx = 0):res = X:=by rw [h,if_pos h2]
theorem zFh {res err X:Int} {a b d:Bool} (h:res = if a then err else X) (h1:a = b) (h2:b = (true || d)):res = err:=by rw [h,h1,h2]; rfl
theorem zDf {a b d:Bool} (h1:a = b) (h2:b = (false || d)):a = d:=by rw [h1,h2]; rfl
theorem zEn {α:Type} {res err X:Int} {all:List α} {p:α→Bool} {k j:Nat} (h:res = if (all.take k).any p then err else X) (h1:(all.take k).any p = ((all.take k).drop j).any p) (hj:¬ j < k):res = X:=by
 rw [h,h1,List.drop_of_length_le (by rw [List.length_take]; omega)]; rfl
theorem zEj {α:Type} {all:List α} {p:α→Bool} {k j:Nat} (hj:j < k) (hjn:j < all.length):((all.take k).drop j).any p = (p all[j] || ((all.take k).drop (j + 1)).any p):=by
 rw [any_at (by rw [List.length_take]; omega),List.getElem_take]
def cntB:List Bool→Int
 | [] => 0
 | b :: r => (if b then 1 else 0) + cntB r
theorem cntB_bd:∀ l:List Bool,0≤cntB l∧cntB l≤l.length
 | [] => ⟨Int.le_refl _,Int.le_refl _⟩
 | b :: r => by
  have:=cntB_bd r
  simp only [cntB,List.length_cons]
  split <;> omega
theorem cntB_take (l:List Bool):∀ (k:Nat) (h:k < l.length),cntB (l.take (k + 1)) = cntB (l.take k) + (if l[k] then 1 else 0):=by
 induction l with
 | nil => intro k h; cases h
 | cons b r ih =>
  intro k h
  cases k with
  | zero => simp [cntB]
  | succ k =>
   have:=ih k (by simpa using h)
   simp only [List.take_succ_cons,cntB,List.getElem_cons_succ] at this ⊢
   omega
def kindsL (x:Sr):List Bool:=[!(x.next == 0),!x.iface.isEmpty,x.discard]
def zIe (ifs:List If) (x:Sr):Bool:=zAt x.pa x.pl && cntB (kindsL x) == 1 && (x.next == 0 || decide (idxF (hasA x.next) ifs 0 < 0)) && zAg x.admin 1 255 && zAg x.tag 0 65535
theorem nat_neq (n:Nat):((n:Int) != 0) = !(n == 0):=by
 rw [Bool.eq_iff_iff]; simp
theorem str_isE (l:List UInt8):(str l).toList.isEmpty = l.isEmpty:=by rw [zAb]
structure RS2 (r:Rt) (x:Sr) (w0 w:World):Prop where
 h:HasC 41 w0.heap.size r.C w
 s:HasC 78 (w0.heap.size + 1) x.C w
 b:Below w0.heap.size w0 w
theorem RS2.keep {r:Rt} {x:Sr} {w0 w w' : World} (h:RS2 r x w0 w) (hb:Below w.heap.size w w'):RS2 r x w0 w' := ⟨h.h.keep hb,h.s.keep hb,h.b.trans (hb.mono h.b.size)⟩
theorem RS2.start (r:Rt) (x:Sr) (w:World):RS2 r x w ((w.alloc (.cells r.C 41)).alloc (.cells x.C 78)):=by
 refine ⟨(HasC.new w _ _).keep ((Below.refl _ _).alloc (Nat.le_refl _) _),?_,((Below.refl _ _).alloc (Nat.le_refl _) _).alloc (by simp) _⟩
 have:=HasC.new (w.alloc (.cells r.C 41)) 78 x.C
 rwa [show (w.alloc (.cells r.C 41)).heap.size = w.heap.size + 1 from by simp] at this
set_option maxRecDepth 100000 in
theorem rightStatic_any (r:Rt) (x:Sr) (w:World) (B:Nat) (h:r.at w B) (hB:B≤w.heap.size) (hx:x.fit):Calls Tryz.prog 179 #[.agg r.C,.agg x.C] w fun e w' => e = .returned (.bool (zIe r.ifs x))∧Below w.heap.size w w' := by
 have H0:=RS2.start r x w
 have HR:=hid h
 have HBB:=hid hB
 have HX:=hid hx
 clear h hB hx
 have E:Hid (zIe r.ifs x = (zAt x.pa x.pl && cntB (kindsL x) == 1 && (x.next == 0 || decide (idxF (hasA x.next) r.ifs 0 < 0)) && zAg x.admin 1 255 && zAg x.tag 0 65535)):=hid rfl
 have EL:Hid (kindsL x = [((x.next:Int) != 0),!(str x.iface).toList.isEmpty,x.discard]):=hid (by rw [nat_neq,str_isE]; rfl)
 generalize zIe r.ifs x = res at E ⊢
 obtain ⟨b0,hb0⟩:∃ b,((x.next:Int) != 0) = b:=⟨_,rfl⟩
 obtain ⟨b1,hb1⟩:∃ b,(str x.iface).toList.isEmpty = b:=⟨_,rfl⟩
 obtain ⟨b2,hb2⟩:∃ b,x.discard = b:=⟨_,rfl⟩
 rw [hb0,hb1,hb2] at EL
 generalize hl:kindsL x = l at EL E
 clear hl
 obtain rfl:=EL.out
 have c2:((w.alloc (.cells r.C 41)).alloc (.cells x.C 78)).cell? ⟨w.heap.size + 1,2,none⟩ = some (.int .u32 (x.next:Int)):=H0.s.cell 2
 have c3:((w.alloc (.cells r.C 41)).alloc (.cells x.C 78)).cell? ⟨w.heap.size + 1,3,none⟩ = some (.string (str x.iface)):=H0.s.cell 3
 have c4:((w.alloc (.cells r.C 41)).alloc (.cells x.C 78)).cell? ⟨w.heap.size + 1,4,none⟩ = some (.bool x.discard):=H0.s.cell 4
 rw [hb2] at c4
 clear hb2 EL
 have HB:HasC 4 (w.heap.size + 1 + 1) #[.bool b0,.bool !b1,.bool b2] (((w.alloc (.cells r.C 41)).alloc (.cells x.C 78)).alloc (.cells #[.bool b0,.bool !b1,.bool b2] 4)):=by
  have:=HasC.new ((w.alloc (.cells r.C 41)).alloc (.cells x.C 78)) 4 #[.bool b0,.bool !b1,.bool b2]
  rwa [show ((w.alloc (.cells r.C 41)).alloc (.cells x.C 78)).heap.size = w.heap.size + 1 + 1 from by simp] at this
 have HB0:=hid HB
 have HS0:=hid (H0.keep ((Below.refl _ _).alloc (Nat.le_refl _) (.cells #[.bool b0,.bool !b1,.bool b2] 4)))
 clear HB H0
 go_enter Tryz.func179,Tryz.ntmps179
 go_wp2_with fail
 clear c2 c3 c4 hb0 hb1
 go_loopg [5,18] 3 (fun gh kv ix wr => ∃ k:Nat,k + gh = 3∧ix = .int .i64 k∧kv = .int .i64 (cntB ([b0,!b1,b2].take k))∧Hid (RS2 r x w wr)∧Hid (HasC 4 (w.heap.size + 1 + 1) #[.bool b0,.bool !b1,.bool b2] wr))
 case atStart => exact ⟨0,by omega,rfl,rfl,HS0,HB0⟩
 case round =>
  obtain ⟨k,hk,rfl,rfl,HW,HC⟩:=hrel
  clear HS0 HB0
  by_cases hlt:k < 3
  case pos =>
   have ck:wr.cell? ⟨w.heap.size + 1 + 1,k,none⟩ = some (.bool ([b0,!b1,b2][k])):=by
    rw [HC.out.cell k]
    rcases (show k = 0∨k = 1∨k = 2 by omega) with rfl | rfl | rfl <;> rfl
   have ST:=hid (cntB_take [b0,!b1,b2] k hlt)
   have BD:=cntB_bd ([b0,!b1,b2].take k)
   have hlen:([b0,!b1,b2].take k).length≤3:=by rw [List.length_take]; omega
   generalize [b0,!b1,b2][k] = bk at ck ST
   generalize cntB ([b0,!b1,b2].take k) = n at ST BD ⊢
   have hn0 : -10≤n:=by omega
   have hn1:n≤10:=by omega
   clear BD hlen
   cases bk with
   | false =>
    go_wp2_with fail
    go_roundg (3 - (k + 1))
    case measure => omega
    case rel => exact ⟨k + 1,by omega,by go_num,by rw [ST.out]; simp,HW,HC⟩
   | true =>
    go_wp2_with fail
    go_roundg (3 - (k + 1))
    case measure => omega
    case rel => exact ⟨k + 1,by omega,by go_num,by rw [ST.out]; first | done | rfl | go_num,HW,HC⟩
  obtain rfl:k = 3:=by omega
  have EN:Hid (cntB [b0,!b1,b2] = cntB ([b0,!b1,b2].take 3)):=hid rfl
  rw [EN.out] at E
  generalize cntB ([b0,!b1,b2].take 3) = n at E ⊢
  clear EN HC hlt
  have c0:wr.cell? ⟨w.heap.size + 1,0,none⟩ = some (.int .u32 (x.pa:Int)):=HW.out.s.cell 0
  have c1:wr.cell? ⟨w.heap.size + 1,1,none⟩ = some (.int .i64 x.pl):=HW.out.s.cell 1
  go_wp2_with fail
  refine (zFc x.pa x.pl _ HX.out.1).mono ?_
  rintro e w1 ⟨rfl,hb⟩
  have H1:=hid (HW.out.keep hb)
  clear hb HW c0 c1
  cases hv:zAt x.pa x.pl with
  | false =>
   go_wp2_with fail
   go_ret
   exact ⟨zAd (by rw [E.out,hv]; rfl),H1.out.b⟩
  | true =>
  by_cases hn:n = 1
  case neg =>
   have dn:(n == 1) = false:=by simpa using hn
   clear hn
   go_wp2_with fail
   go_ret
   exact ⟨zAd (by rw [E.out,hv,dn]; rfl),H1.out.b⟩
  subst hn
  have E1:Hid (res = ((x.next == 0 || decide (idxF (hasA x.next) r.ifs 0 < 0)) && zAg x.admin 1 255 && zAg x.tag 0 65535)):=hid (by rw [E.out,hv]; rfl)
  clear hv E
  have c2:w1.cell? ⟨w.heap.size + 1,2,none⟩ = some (.int .u32 (x.next:Int)):=H1.out.s.cell 2
  by_cases hz:x.next = 0
  ·have dz:((x.next:Int) == 0) = true:=by simp; omega
   have E2:Hid (res = (zAg x.admin 1 255 && zAg x.tag 0 65535)):=hid (by rw [E1.out,hz]; rfl)
   clear hz
   have c5:w1.cell? ⟨w.heap.size + 1,5,none⟩ = some (.int .i64 x.admin):=H1.out.s.cell 5
   have c6:w1.cell? ⟨w.heap.size + 1,6,none⟩ = some (.int .i64 x.tag):=H1.out.s.cell 6
   cases hw1:zAg x.admin 1 255 with
   | false =>
    go_wp2_with (go_at_call 88; refine (zAl _ _ _ _).mono ?_; rintro e w' ⟨rfl,rfl⟩)
    go_ret
    exact ⟨zAd (by rw [E2.out,hw1]; rfl),H1.out.b⟩
   | true =>
   go_wp2_with (go_at_call 88; refine (zAl _ _ _ _).mono ?_; rintro e w' ⟨rfl,rfl⟩)
   go_ret
   exact ⟨zAd (by rw [E2.out,hw1]; rfl),H1.out.b⟩
  have dz:((x.next:Int) == 0) = false:=by simp; omega
  have dz2:(x.next == 0) = false:=by simpa using hz
  have E3:Hid (res = (decide (idxF (hasA x.next) r.ifs 0 < 0) && zAg x.admin 1 255 && zAg x.tag 0 65535)):=hid (by rw [E1.out,dz2]; rfl)
  clear hz dz2
  go_wp2_with (first | (refine zAm (by rfl) (zAa rfl 41 _ rfl rfl H1.out.h.range Tryz.rowRt Tryz.sizeRt ?_)))
  with_reducible refine (address_any r x.next w1 B (HR.out.below (H1.out.b.mono HBB.out)) (Nat.le_trans HBB.out H1.out.b.size)).mono ?_
  rintro e w2 ⟨rfl,hb⟩
  have H2:=hid (H1.out.keep hb)
  clear hb H1 c2
  by_cases hd:idxF (hasA x.next) r.ifs 0 < 0
  case neg =>
   have di:=decide_eq_false hd
   clear hd
   go_wp2_with fail
   go_ret
   exact ⟨zAd (by rw [E3.out,di]; rfl),H2.out.b⟩
  have di:=decide_eq_true hd
  have E2:Hid (res = (zAg x.admin 1 255 && zAg x.tag 0 65535)):=hid (by rw [E3.out,di]; rfl)
  clear hd
  have c5:w2.cell? ⟨w.heap.size + 1,5,none⟩ = some (.int .i64 x.admin):=H2.out.s.cell 5
  have c6:w2.cell? ⟨w.heap.size + 1,6,none⟩ = some (.int .i64 x.tag):=H2.out.s.cell 6
  cases hw1:zAg x.admin 1 255 with
  | false =>
   go_wp2_with (go_at_call 88; refine (zAl _ _ _ _).mono ?_; rintro e w' ⟨rfl,rfl⟩)
   go_ret
   exact ⟨zAd (by rw [E2.out,hw1]; rfl),H2.out.b⟩
  | true =>
  go_wp2_with (go_at_call 88; refine (zAl _ _ _ _).mono ?_; rintro e w' ⟨rfl,rfl⟩)
  go_ret
  exact ⟨zAd (by rw [E2.out,hw1]; rfl),H2.out.b⟩
def lenAt (ifs:List If) (n:List UInt8):Int:=(ifs[(idxF (fun y => y.name == n) ifs 0).toNat]?.map (·.len)).getD 0
def staF (ifs:List If) (x:Sr):Int:=if zIe ifs x then (if x.iface.isEmpty then 0 else if idxF (fun y => y.name == x.iface) ifs 0 < 0 then 5 else if lenAt ifs x.iface = 0 then 1 else 0) else 1
def zDe (x y:Sr):Bool:=decide (y.pa = x.pa∧y.pl = x.pl) && y.admin == x.admin
def statsE (ifs:List If) (l:List Sr):Int:=pairE 16 (staF ifs) zDe 6 l
set_option maxRecDepth 100000 in
theorem zMs (r:Rt) (w:World) (B:Nat) (h:r.at w B) (hB:B≤w.heap.size) (hf:∀ x ∈ r.stat,x.fit):Calls Tryz.prog 95 #[.agg r.C] w fun e w' => e = .returned (.int .i64 (statsE r.ifs r.stat))∧Below w.heap.size w w' := by
 have H0:=hid (RB.start r w)
 have HR:=hid h
 have HF:=hid hf
 clear hf
 have HBB:=hid hB
 obtain ⟨A,c,hv,hle, -⟩:=h.hstat
 have HL:Hid (∀ w', RB r w w' → w'.cell? ⟨w.heap.size,7,none⟩ = some (.slice A r.stat.length c)):=hid (fun w' h => by rw [← hv]; exact h.h.cell 7)
 have HV:=hid hv
 clear h hv hB
 have c2:=HL.out _ H0.out
 obtain ⟨res,hres⟩:∃ res,statsE r.ifs r.stat = res:=⟨_,rfl⟩
 rw [hres]
 by_cases h8:16 < r.stat.length
 ·have E:Hid (res = 7):=hid (by rw [← hres]; exact if_pos h8)
  clear hres
  go_enter Tryz.func95,Tryz.ntmps95
  go_wp2_with fail
  go_ret
  exact ⟨zAe E.out.symm,H0.out.b⟩
 have d8:decide ((16:Int) < r.stat.length) = false:=by simp; omega
 have E:Hid (zBk (staF r.ifs) zDe 6 r.stat r.stat 0 = res):=hid (by rw [← hres]; exact (if_neg h8).symm)
 clear hres
 go_enter Tryz.func95,Tryz.ntmps95
 go_wp2_with fail
 clear c2 d8
 go_loopg [15] r.stat.length (fun gh ix wr => ∃ k:Nat,k + gh = r.stat.length∧ix = .int .i64 k∧Hid (RB r w wr)∧Hid (zBk (staF r.ifs) zDe 6 r.stat (r.stat.drop k) k = res))
 case atStart => exact ⟨0,by omega,rfl,H0,E⟩
 case round =>
  obtain ⟨k,hk,rfl,HW,HG⟩:=hrel
  clear H0 E
  by_cases hlt:k < r.stat.length
  case neg =>
   have E:=hid (zFt hlt HG.out)
   go_wp2_with fail
   go_ret
   exact ⟨zAe E.out.symm,HW.out.b⟩
  have HAT:=hid (zGa hlt HG.out)
  obtain ⟨g,o,c', e', -,hg,R0⟩:=(HR.out.hstat).elem (n:=7) (by decide) (fun _ => rfl) hlt
  rw [HV.out] at e'
  injection e' with e1 e2 e3
  subst e1 e3
  have r1:=hid (zAf R0 (HW.out.b.mono HBB.out) hg)
  have FX:=hid (HF.out _ (List.getElem_mem hlt))
  clear R0 HG e2
  generalize r.stat[k] = x at HAT r1 FX
  go_upto_region 6 with (first | (refine zAa rfl 78 _ rfl rfl r1.out Tryz.rowSr Tryz.sizeSr ?_) | (refine zAc rfl 78 _ _ rfl rfl rfl (HasC.new wr _ _) rfl Tryz.sizeSr (Sr.one x) ?_; intro w5 hz1 hz2))
  have H5:=hid (HW.out.keep (zAh hz2))
  have X5:=hz1
  clear hz1 hz2 r1 HW
  generalize wr.heap.size = gx at X5 ⊢
  replace X5:=hid X5
  go_wp2_with (first | (refine zAa rfl 41 _ rfl rfl H5.out.h.range Tryz.rowRt Tryz.sizeRt ?_) | (refine zAa rfl 78 _ rfl rfl X5.out.range Tryz.rowSr Tryz.sizeSr ?_))
  with_reducible refine (rightStatic_any r x _ B (HR.out.below (H5.out.b.mono HBB.out)) (Nat.le_trans HBB.out H5.out.b.size) FX.out).mono ?_
  rintro e w6 ⟨rfl,hb⟩
  have H6:=hid (H5.out.keep hb)
  have X6:=hid (X5.out.keep hb)
  clear hb H5 X5
  have PE:Hid (staF r.ifs x = if zIe r.ifs x then (if x.iface.isEmpty then 0 else if idxF (fun y => y.name == x.iface) r.ifs 0 < 0 then 5 else if lenAt r.ifs x.iface = 0 then 1 else 0) else 1):=hid rfl
  cases hv:zIe r.ifs x with
  | false =>
   have F1:Hid (staF r.ifs x = 1):=hid (by rw [PE.out,hv]; rfl)
   have E:Hid (res = 1):=hid ((zBp HAT.out (by rw [F1.out]; decide)).trans (F1.out))
   go_wp2_with fail
   go_ret
   exact ⟨zAe E.out.symm,H6.out.b⟩
  | true =>
  have PE2:Hid (staF r.ifs x = if x.iface.isEmpty then 0 else if idxF (fun y => y.name == x.iface) r.ifs 0 < 0 then 5 else if lenAt r.ifs x.iface = 0 then 1 else 0):=hid (by rw [PE.out,hv]; rfl)
  clear hv PE
  have x3:w6.cell? ⟨gx,3,none⟩ = some (.string (str x.iface)):=X6.out.cell 3
  by_cases hi:x.iface = []
  ·have F0:Hid (staF r.ifs x = 0):=hid (by rw [PE2.out,hi]; rfl)
   have tn:(str x.iface).toList = []:=by rw [zAb,hi]
   clear hi
   have HAN:Hid (res = if (r.stat.take k).any (zDe x) then 6 else zBk (staF r.ifs) zDe 6 r.stat (r.stat.drop (k + 1)) (k + 1)):=hid (zGg HAT.out F0.out)
   clear HAT F0
   have c2:=HL.out _ H6.out
   go_wp2_with fail
   clear c2 x3 tn
   go_loopg [45] k (fun gh ix wq => ∃ j:Nat,j + gh = k∧ix = .int .i64 j∧Hid (RB r w wq)∧Hid (HasC 78 gx x.C wq)∧Hid ((r.stat.take k).any (zDe x) = ((r.stat.take k).drop j).any (zDe x)))
   case atStart => exact ⟨0,by omega,rfl,H6,X6,hid rfl⟩
   case round =>
    obtain ⟨j,hj,rfl,HQ,XQ,HAY⟩:=hrel
    by_cases hjl:j < k
    case neg =>
     have E:Hid (zBk (staF r.ifs) zDe 6 r.stat (r.stat.drop (k + 1)) (k + 1) = res):=hid (zEn HAN.out HAY.out hjl).symm
     go_wp2_with fail
     go_roundg (r.stat.length - (k + 1))
     case measure => omega
     case rel => exact ⟨k + 1,by omega,by go_num,HQ,E⟩
    have hjn:j < r.stat.length:=by omega
    obtain ⟨g', o', c'', e', -,hg', R0⟩:=(HR.out.hstat).elem (n:=7) (by decide) (fun _ => rfl) hjn
    rw [HV.out] at e'
    injection e' with e1 e2 e3
    injection e1 with e1
    injection e1 with e1 e4
    subst e1 e4
    have HST:=hid (zEj (all:=r.stat) (p:=zDe x) hjl hjn)
    have r1:=hid (zAf R0 (HQ.out.b.mono HBB.out) hg')
    clear R0 e2 e3
    generalize r.stat[j] = y at HST r1
    have hjk:(j:Int) < k:=by omega
    go_upto_region 17 with (first | (refine zAa rfl 78 _ rfl rfl r1.out Tryz.rowSr Tryz.sizeSr ?_) | (refine zAc rfl 78 _ _ rfl rfl rfl (HasC.new wr _ _) rfl Tryz.sizeSr (Sr.one y) ?_; intro w6 hz1 hz2))
    have H6:=hid (HQ.out.keep (zAh hz2))
    have X6:=hid (XQ.out.keep (zAh hz2))
    have Y6:=hz1
    clear hz1 hz2 r1 HQ XQ
    generalize wr.heap.size = gy at Y6 ⊢
    replace Y6:=hid Y6
    have xc0:w6.cell? ⟨gx,0,none⟩ = some (.int .u32 (x.pa:Int)):=X6.out.cell 0
    have xc1:w6.cell? ⟨gx,1,none⟩ = some (.int .i64 x.pl):=X6.out.cell 1
    have xc5:w6.cell? ⟨gx,5,none⟩ = some (.int .i64 x.admin):=X6.out.cell 5
    have yc0:w6.cell? ⟨gy,0,none⟩ = some (.int .u32 (y.pa:Int)):=Y6.out.cell 0
    have yc1:w6.cell? ⟨gy,1,none⟩ = some (.int .i64 y.pl):=Y6.out.cell 1
    have yc5:w6.cell? ⟨gy,5,none⟩ = some (.int .i64 y.admin):=Y6.out.cell 5
    have qe:∀ w,(binOp .eql 76 (.agg #[.int .u32 (y.pa:Int),.int .i64 y.pl]) (.agg #[.int .u32 (x.pa:Int),.int .i64 x.pl])).run Tryz.prog w = .ok (.bool (decide (y.pa = x.pa∧y.pl = x.pl))) w:=fun w => zLz y.pa x.pa y.pl x.pl w
    have g:=Tryz.pfxGuard
    have CC:Hid (zDe x y = (decide (y.pa = x.pa∧y.pl = x.pl) && y.admin == x.admin)):=hid rfl
    generalize decide (y.pa = x.pa∧y.pl = x.pl) = bp at qe CC
    cases bp with
    | false =>
     have EN:Hid ((r.stat.take k).any (zDe x) = ((r.stat.take k).drop (j + 1)).any (zDe x)):=hid (zDf HAY.out (by rw [HST.out,CC.out,Bool.false_and]))
     go_wp2_with fail
     go_roundg (k - (j + 1))
     case measure => omega
     case rel => exact ⟨j + 1,by omega,by go_num,H6,X6,EN⟩
    | true =>
    by_cases ha:y.admin = x.admin
    ·have da:(y.admin == x.admin) = true:=by simpa using ha
     have CD:Hid (zDe x y = true):=hid (by rw [CC.out,da]; rfl)
     clear ha
     have E:Hid (res = 6):=hid (zFh HAN.out HAY.out (by rw [HST.out,CD.out]))
     go_wp2_with fail
     go_ret
     exact ⟨zAe E.out.symm,H6.out.b⟩
    have da:(y.admin == x.admin) = false:=by simpa using ha
    have CD:Hid (zDe x y = false):=hid (by rw [CC.out,da]; rfl)
    clear ha
    have EN:Hid ((r.stat.take k).any (zDe x) = ((r.stat.take k).drop (j + 1)).any (zDe x)):=hid (zDf HAY.out (by rw [HST.out,CD.out]))
    go_wp2_with fail
    go_roundg (k - (j + 1))
    case measure => omega
    case rel => exact ⟨j + 1,by omega,by go_num,H6,X6,EN⟩
  obtain ⟨i1,i2,i3⟩:=zHt hi
  have PE3:Hid (staF r.ifs x = if idxF (fun y => y.name == x.iface) r.ifs 0 < 0 then 5 else if lenAt r.ifs x.iface = 0 then 1 else 0):=hid (by rw [PE2.out,i1]; rfl)
  clear hi PE2
  go_wp2_with (first | (refine zAa rfl 41 _ rfl rfl H6.out.h.range Tryz.rowRt Tryz.sizeRt ?_))
  with_reducible refine (zKn r x.iface w6 B (HR.out.below (H6.out.b.mono HBB.out)) (Nat.le_trans HBB.out H6.out.b.size)).mono ?_
  rintro e w7 ⟨rfl,hb⟩
  have H7:=hid (H6.out.keep hb)
  have X7:=hid (X6.out.keep hb)
  clear hb H6 X6 x3 i1 i2 i3
  by_cases hd:idxF (fun y => y.name == x.iface) r.ifs 0 < 0
  ·have di:=decide_eq_true hd
   have F1:Hid (staF r.ifs x = 5):=hid (by rw [PE3.out,if_pos hd])
   clear hd
   have E:Hid (res = 5):=hid ((zBp HAT.out (by rw [F1.out]; decide)).trans (F1.out))
   go_wp2_with fail
   go_ret
   exact ⟨zAe E.out.symm,H7.out.b⟩
  have PE4:Hid (staF r.ifs x = if lenAt r.ifs x.iface = 0 then 1 else 0):=hid (by rw [PE3.out,if_neg hd])
  obtain ⟨i,hii⟩:∃ i:Nat,idxF (fun y => y.name == x.iface) r.ifs 0 = (i:Int):=⟨_,(Int.toNat_of_nonneg (by omega)).symm⟩
  have hil:i < r.ifs.length:=by have:=(idxF_bd (fun y => y.name == x.iface) r.ifs 0).2; omega
  have EL:Hid (lenAt r.ifs x.iface = r.ifs[i].len):=hid (by unfold lenAt; rw [hii,Int.toNat_natCast,List.getElem?_eq_getElem hil]; rfl)
  obtain ⟨gi,oi,ci,ei,hci,hgi,RI⟩:=(HR.out.hifs).elem (n:=12) (by decide) (fun _ => rfl) hil
  have cl:w7.cell? ⟨gi,oi + i * 12 + 2,none⟩ = some (.int .i64 r.ifs[i].len):=zAf RI (H7.out.b.mono HBB.out) hgi 2 _ rfl
  have cs:w7.cell? ⟨w.heap.size,2,none⟩ = some (.slice (some ⟨gi,oi,none⟩) r.ifs.length ci):=by rw [← ei]; exact H7.out.h.cell 2
  rw [hii]
  clear hii hd RI ei
  generalize r.ifs[i].len = li at EL cl
  by_cases hz:li = 0
  ·subst hz
   have F1:Hid (staF r.ifs x = 1):=hid (by rw [PE4.out,EL.out]; rfl)
   have E:Hid (res = 1):=hid ((zBp HAT.out (by rw [F1.out]; decide)).trans (F1.out))
   go_wp2_with fail
   go_ret
   exact ⟨zAe E.out.symm,H7.out.b⟩
  have dz:(li == 0) = false:=by simpa using hz
  have F0:Hid (staF r.ifs x = 0):=hid (by rw [PE4.out,EL.out,if_neg hz])
  clear hz
  have HAN:Hid (res = if (r.stat.take k).any (zDe x) then 6 else zBk (staF r.ifs) zDe 6 r.stat (r.stat.drop (k + 1)) (k + 1)):=hid (zGg HAT.out F0.out)
  clear HAT F0
  have c2:=HL.out _ H7.out
  go_wp2_with fail
  clear c2 cl cs dz
  go_loopg [45] k (fun gh ix wq => ∃ j:Nat,j + gh = k∧ix = .int .i64 j∧Hid (RB r w wq)∧Hid (HasC 78 gx x.C wq)∧Hid ((r.stat.take k).any (zDe x) = ((r.stat.take k).drop j).any (zDe x)))
  case atStart => exact ⟨0,by omega,rfl,H7,X7,hid rfl⟩
  case round =>
   obtain ⟨j,hj,rfl,HQ,XQ,HAY⟩:=hrel
   by_cases hjl:j < k
   case neg =>
    have E:Hid (zBk (staF r.ifs) zDe 6 r.stat (r.stat.drop (k + 1)) (k + 1) = res):=hid (zEn HAN.out HAY.out hjl).symm
    go_wp2_with fail
    go_roundg (r.stat.length - (k + 1))
    case measure => omega
    case rel => exact ⟨k + 1,by omega,by go_num,HQ,E⟩
   have hjn:j < r.stat.length:=by omega
   obtain ⟨g', o', c'', e', -,hg', R0⟩:=(HR.out.hstat).elem (n:=7) (by decide) (fun _ => rfl) hjn
   rw [HV.out] at e'
   injection e' with e1 e2 e3
   injection e1 with e1
   injection e1 with e1 e4
   subst e1 e4
   have HST:=hid (zEj (all:=r.stat) (p:=zDe x) hjl hjn)
   have r1:=hid (zAf R0 (HQ.out.b.mono HBB.out) hg')
   clear R0 e2 e3
   generalize r.stat[j] = y at HST r1
   have hjk:(j:Int) < k:=by omega
   go_upto_region 17 with (first | (refine zAa rfl 78 _ rfl rfl r1.out Tryz.rowSr Tryz.sizeSr ?_) | (refine zAc rfl 78 _ _ rfl rfl rfl (HasC.new wr _ _) rfl Tryz.sizeSr (Sr.one y) ?_; intro w6 hz1 hz2))
   have H6:=hid (HQ.out.keep (zAh hz2))
   have X6:=hid (XQ.out.keep (zAh hz2))
   have Y6:=hz1
   clear hz1 hz2 r1 HQ XQ
   generalize wr.heap.size = gy at Y6 ⊢
   replace Y6:=hid Y6
   have xc0:w6.cell? ⟨gx,0,none⟩ = some (.int .u32 (x.pa:Int)):=X6.out.cell 0
   have xc1:w6.cell? ⟨gx,1,none⟩ = some (.int .i64 x.pl):=X6.out.cell 1
   have xc5:w6.cell? ⟨gx,5,none⟩ = some (.int .i64 x.admin):=X6.out.cell 5
   have yc0:w6.cell? ⟨gy,0,none⟩ = some (.int .u32 (y.pa:Int)):=Y6.out.cell 0
   have yc1:w6.cell? ⟨gy,1,none⟩ = some (.int .i64 y.pl):=Y6.out.cell 1
   have yc5:w6.cell? ⟨gy,5,none⟩ = some (.int .i64 y.admin):=Y6.out.cell 5
   have qe:∀ w,(binOp .eql 76 (.agg #[.int .u32 (y.pa:Int),.int .i64 y.pl]) (.agg #[.int .u32 (x.pa:Int),.int .i64 x.pl])).run Tryz.prog w = .ok (.bool (decide (y.pa = x.pa∧y.pl = x.pl))) w:=fun w => zLz y.pa x.pa y.pl x.pl w
   have g:=Tryz.pfxGuard
   have CC:Hid (zDe x y = (decide (y.pa = x.pa∧y.pl = x.pl) && y.admin == x.admin)):=hid rfl
   generalize decide (y.pa = x.pa∧y.pl = x.pl) = bp at qe CC
   cases bp with
   | false =>
    have EN:Hid ((r.stat.take k).any (zDe x) = ((r.stat.take k).drop (j + 1)).any (zDe x)):=hid (zDf HAY.out (by rw [HST.out,CC.out,Bool.false_and]))
    go_wp2_with fail
    go_roundg (k - (j + 1))
    case measure => omega
    case rel => exact ⟨j + 1,by omega,by go_num,H6,X6,EN⟩
   | true =>
   by_cases ha:y.admin = x.admin
   ·have da:(y.admin == x.admin) = true:=by simpa using ha
    have CD:Hid (zDe x y = true):=hid (by rw [CC.out,da]; rfl)
    clear ha
    have E:Hid (res = 6):=hid (zFh HAN.out HAY.out (by rw [HST.out,CD.out]))
    go_wp2_with fail
    go_ret
    exact ⟨zAe E.out.symm,H6.out.b⟩
   have da:(y.admin == x.admin) = false:=by simpa using ha
   have CD:Hid (zDe x y = false):=hid (by rw [CC.out,da]; rfl)
   clear ha
   have EN:Hid ((r.stat.take k).any (zDe x) = ((r.stat.take k).drop (j + 1)).any (zDe x)):=hid (zDf HAY.out (by rw [HST.out,CD.out]))
   go_wp2_with fail
   go_roundg (k - (j + 1))
   case measure => omega
   case rel => exact ⟨j + 1,by omega,by go_num,H6,X6,EN⟩
end Go.Proofs.YtdlgnhefpoalnaaGreatDoor
