/- The walks of rightInterface, rightClause, rightPorts, rightRule, checkList. No condition. -/
import Derived.Test.YtdlgnhefpoalnaaGreatDoorJae
set_option maxRecDepth 8000
set_option maxHeartbeats 8000000
namespace Go.Proofs.YtdlgnhefpoalnaaGreatDoor
open Lib (hid)
open Go.RowKit
theorem Tryz.infoStr:(Tryz.prog.info? 9).map (fun i => (i.zero.map (fun z => z.cells.size),i.size,i.bytes)) = some (some 1,1,16):=by kernel_rfl
theorem zMi {W:World} {z:Nat} {T:TypeId} {a0 a1 a2 a3 b0 b1 b2 b3:Value} (h:HasC T z #[b0,b1,b2,b3] W) :
  HasC T z #[a0,a1,a2,a3] ((((W.setCell ⟨z,0,none⟩ a0).setCell ⟨z,1,none⟩ a1).setCell ⟨z,2,none⟩ a2).setCell ⟨z,3,none⟩ a3)∧W.grownBy ((((W.setCell ⟨z,0,none⟩ a0).setCell ⟨z,1,none⟩ a1).setCell ⟨z,2,none⟩ a2).setCell ⟨z,3,none⟩ a3) (some z) :=
 ⟨Lib.heap_setCell_same (i:=3) (Lib.heap_setCell_same (i:=2) (Lib.heap_setCell_same (i:=1) (Lib.heap_setCell_same (i:=0) h _) _) _) _,zDk (zDk (zDk (zAy _ _ _ _) (zAy _ _ _ _)) (zAy _ _ _ _)) (zAy _ _ _ _)⟩
theorem zEu {w W W' : World} {c z:Nat} (h:w.grownBy W (some c)) (hg:W.grownBy W' (some z)) (hz:w.heap.size≤z):w.grownBy W' (some c) :=
 ⟨hg.os.trans h.os,hg.tape.trans h.tape,hg.output.trans h.output,Nat.le_trans h.size hg.size,fun k hk hne => (hg.block k (Nat.lt_of_lt_of_le hk h.size) (fun e => by injection e; omega)).trans (h.block k hk hne)⟩
theorem grown_newR {w W W' : World} {c:Nat} {row:Option Nat} (h:w.grownBy W (some c)) (hg:W.grownBy W' row) (hz:∀ k,row = some k→w.heap.size≤k):w.grownBy W' (some c) :=
 ⟨hg.os.trans h.os,hg.tape.trans h.tape,hg.output.trans h.output,Nat.le_trans h.size hg.size,fun k hk hne => (hg.block k (Nat.lt_of_lt_of_le hk h.size) (fun e => by have:=hz k e.symm; omega)).trans (h.block k hk hne)⟩
def NdI (c B:Nat) (lines:Int) (m:Nat) (x:Tk) (t:List Tk) (w:World) (z q:Nat) (t' : List Tk) (wr:World):Prop :=
 ∃ (m' : Nat) (ws:List (List UInt8)) (v:Value),nodeN lines m x.1 (x :: t) [] = nodeN lines m' x.1 t' ws∧2 * t'.length + 1≤m' ∧ Cu c B lines t' wr∧w.grownBy wr (some c)∧HasC 180 z #[.int .i64 0,.slice none 0 0,.bool false,.slice none 0 0] wr∧HasC 180 q #[.int .i64 x.1,v,.bool false,.slice none 0 0] wr ∧
  wr.ownsRow w.heap.size 9 1 v ws.length (ws.map strV)∧v.ownBlock≠some z∧v.ownBlock≠some q∧t'.length + ws.length≤t.length + 1
theorem own_form1 {w:World} {B:Nat} {T:TypeId} {v:Value} {n:Nat} {css:List Value} (h:w.ownsRow B T 1 v n css):∃ A cap,v = .slice A n cap:=by
 rcases h.2 with ⟨e,h0⟩ | ⟨g,cap,cur,e, -⟩
 ·exact ⟨none,0,by rw [h0]; exact e⟩
 ·exact ⟨_,_,e⟩
theorem node_step (N:Nat) (SC:SeqC N):NodC (N + 1):=by
 intro c B m lines x t w hN h6 hm h
 have H:=hid h
 have HS:=hid SC
 have HH:=hid (show t.length≤N∧t.length + 1≤65536∧2 * (t.length + 1) + 1≤m from ⟨by omega,h6,hm⟩)
 have hcl:=h.lt
 clear h SC hN h6 hm
 go_enter Tryz.func134,Tryz.ntmps134
 go_upto_region 1 with (fail)
 have HZ:=hid (HasC.new w 180 #[.int .i64 0,.slice none 0 0,.bool false,.slice none 0 0])
 have HB1:=hid ((Below.refl w.heap.size w).alloc (Nat.le_refl _) (.cells #[.int .i64 0,.slice none 0 0,.bool false,.slice none 0 0] 180))
 change Code.wp _ _ _ _ (w.alloc (.cells #[.int .i64 0,.slice none 0 0,.bool false,.slice none 0 0] 180))
 generalize w.alloc (.cells #[.int .i64 0,.slice none 0 0,.bool false,.slice none 0 0] 180) = wA at HZ HB1 ⊢
 have H1:=hid (H.out.keep HB1.out)
 obtain ⟨g,o,p,hv,c1,c2, -,hp,hmx, -⟩:=H1.out.popped
 have c0:wA.cell? ⟨c,0,none⟩ = some (.slice (some ⟨g,o,none⟩) (t.length + 1) p):=by rw [Lib.cell_of_heap hv]; rfl
 have hi:(0:Int) < (t.length:Int) + 1:=by omega
 have hzl:=zAw HZ.out
 unfold maxLen at hmx
 clear hv
 go_upto_region 2 with (fail)
 have HQ:=hid (HasC.new wA 180 #[.int .i64 x.1,.slice none 0 0,.bool false,.slice none 0 0])
 have HB2:=hid ((Below.refl wA.heap.size wA).alloc (Nat.le_refl _) (.cells #[.int .i64 x.1,.slice none 0 0,.bool false,.slice none 0 0] 180))
 change Code.wp _ _ _ _ (wA.alloc (.cells #[.int .i64 x.1,.slice none 0 0,.bool false,.slice none 0 0] 180))
 generalize wA.alloc (.cells #[.int .i64 x.1,.slice none 0 0,.bool false,.slice none 0 0] 180) = w2 at HQ HB2 ⊢
 have HZ2:=hid (HZ.out.keep HB2.out)
 have H2:=hid (H1.out.keep HB2.out)
 have HG2:Hid (w.grownBy w2 (some c)):=hid (zDy (Nat.le_refl _) (HB1.out.trans (HB2.out.mono HB1.out.size)) _)
 have HI0:Hid (NdI c B lines m x t w w.heap.size wA.heap.size (x :: t) w2):=hid ⟨m,[],.slice none 0 0,rfl,by have:=HH.out.2.2; rw [List.length_cons]; omega,H2.out,HG2.out,HZ2.out,HQ.out,World.ownsRow_nil _ _ _ _,by simp [Value.ownBlock],by simp [Value.ownBlock],by simp⟩
 generalize hz:w.heap.size = z at HI0 ⊢
 generalize hq:wA.heap.size = q at HI0 ⊢
 have hzq:z < q:=by omega
 clear c0 c1 c2 HZ HZ2 HQ H2 HG2 HB1 HB2 H1 hi hp hmx hzl hq
 go_loopg [] (t.length + 1) (fun gh wr => ∃ t' : List Tk,gh = t'.length∧Hid (NdI c B lines m x t w z q t' wr))
 case atStart => exact ⟨x :: t,rfl,HI0⟩
 case round =>
  clear HI0
  obtain ⟨t', rfl,HI⟩:=hrel
  obtain ⟨m', ws,v,e1,e2,e3,e4,e5,e6,e7,e8,e9,e10⟩:=HI.out
  obtain ⟨A0,k0,rfl⟩:=own_form1 e7
  have E1:=hid e1
  have E3:=hid e3
  have E4:=hid e4
  have E5:=hid e5
  have E6:=hid e6
  have E7:=hid e7
  have E8:=hid e8
  have E9:=hid e9
  clear e1 e3 e4 e5 e6 e7 e8 e9 HI
  obtain ⟨n', rfl⟩:∃ n', m' = n' + 1:=⟨m' - 1,by omega⟩
  cases t' with
  | nil =>
   obtain ⟨A,p,c0⟩:=E3.out.rest0
   have cl:=E3.out.linesC
   have ES:=E1.out
   rw [nodeN] at ES
   have HES:=hid ES
   rw [List.length_nil] at c0
   have z0:=E5.out.cell 0
   have z1:=E5.out.cell 1
   have z2:=E5.out.cell 2
   have z3:=E5.out.cell 3
   have fz:=E5.out.frz
   clear ES
   go_wp2_with fail
   go_region_law (fail)
   all_goals
    go_wp2_with fail
    have q4:=zMi (a0:=.int .i64 0) (a1:=.slice none 0 0) (a2:=.bool false) (a3:=.slice none 0 0) E5.out
    refine bodyPost_ret (zAz rfl rfl rfl rfl (HasC.loadR (T:=180) (g:=z) (cs:=#[.int .i64 0,.slice none 0 0,.bool false,.slice none 0 0]) ?hz Tryz.rowNode Tryz.sizeNode)) rfl ?_
    case hz => exact q4.1
    have gg:=zEu E4.out q4.2 (by omega)
    refine ⟨⟨gg.os,gg.tape,gg.output,gg.size,gg.block⟩,?_⟩
    rw [HES.out]
    rfl
  | cons y r =>
   obtain ⟨yl,yt⟩:=y
   obtain ⟨g2,o2,p2,hv, -, -, -, -,hmx, -⟩:=E3.out.popped
   have c0:wr.cell? ⟨c,0,none⟩ = some (.slice (some ⟨g2,o2,none⟩) (r.length + 1) p2):=by rw [Lib.cell_of_heap hv]; rfl
   have hi:(0:Int) < (r.length:Int) + 1:=by omega
   have ES:=E1.out
   rw [nodeN] at ES
   have HES:=hid ES
   rw [List.length_cons] at e2 e10
   unfold maxLen at hmx
   clear ES hv
   go_wp2_with fail
   refine (cnext_any E3.out).mono ?_
   rintro e w3 ⟨rfl,h3,k3⟩
   have H3:=hid h3
   have K3:=hid k3
   clear h3 k3 c0
   unfold strV
   go_upto_region 9 with (fail)
   have HT:=hid (HasC.new w3 65 #[.int .i64 yl,.string (str yt)])
   have HB4:=hid ((Below.refl w3.heap.size w3).alloc (Nat.le_refl _) (.cells #[.int .i64 yl,.string (str yt)] 65))
   change Code.wp _ _ _ _ (w3.alloc (.cells #[.int .i64 yl,.string (str yt)] 65))
   generalize w3.alloc (.cells #[.int .i64 yl,.string (str yt)] 65) = w4 at HT HB4 ⊢
   have hzl:=zAw E5.out
   have hql:=zAw E6.out
   have hs3:=K3.out.size
   have hs4:=HB4.out.size
   have hcB:=E3.out.1
   have H4:=hid (H3.out.keep HB4.out)
   have G4:Hid (w.grownBy w4 (some c)):=hid (zDk E4.out (zDk K3.out (zDy (Nat.le_refl _) HB4.out _)))
   have Z4:Hid (HasC 180 z #[.int .i64 0,.slice none 0 0,.bool false,.slice none 0 0] w4):=hid ((E5.out.grown K3.out (fun e => by injection e; omega)).keep HB4.out)
   have Q4:Hid (HasC 180 q #[.int .i64 x.1,.slice A0 ws.length k0,.bool false,.slice none 0 0] w4):=hid ((E6.out.grown K3.out (fun e => by injection e; omega)).keep HB4.out)
   have R4:Hid (w4.ownsRow w.heap.size 9 1 (.slice A0 ws.length k0) ws.length (ws.map strV)):=hid ((E7.out.kept K3.out (.inr (fun e => by have:=(E7.out.lt _ e).1; omega))).kept (zDy (Nat.le_refl _) HB4.out none) (by
    cases hx:(Value.slice A0 ws.length k0).ownBlock with
    | none => exact .inl rfl
    | some k => exact .inr (by simp)))
   have t0:w4.cell? ⟨w3.heap.size,0,none⟩ = some (.int .i64 yl):=HT.out.cell 0
   have t1:w4.cell? ⟨w3.heap.size,1,none⟩ = some (.string (str yt)):=HT.out.cell 1
   have qc0:w4.cell? ⟨q,0,none⟩ = some (.int .i64 x.1):=Q4.out.cell 0
   have qc1:w4.cell? ⟨q,1,none⟩ = some (.slice A0 ws.length k0):=Q4.out.cell 1
   have qc2:w4.cell? ⟨q,2,none⟩ = some (.bool false):=Q4.out.cell 2
   have qc3:w4.cell? ⟨q,3,none⟩ = some (.slice none 0 0):=Q4.out.cell 3
   have z0:=Z4.out.cell 0
   have z1:=Z4.out.cell 1
   have z2:=Z4.out.cell 2
   have z3:=Z4.out.cell 3
   have fz:=Z4.out.frz
   have p59:((str yt).toList == [59]) = (yt == [59]):=by rw [zAb]
   have p123:((str yt).toList == [123]) = (yt == [123]):=by rw [zAb]
   have p125:((str yt).toList == [125]) = (yt == [125]):=by rw [zAb]
   clear HT
   cases h59:(yt == [59]) with
   | true =>
    rw [h59] at p59
    obtain rfl:yt = [59]:=by simpa using h59
    have d123:(([59]:List UInt8) == [123]) = false:=by decide
    have d125:(([59]:List UInt8) == [125]) = false:=by decide
    rw [d123] at p123
    rw [d125] at p125
    by_cases hw:ws = []
    ·subst hw
     have HES2:Hid (nodeN lines m x.1 (x :: t) [] = .error yl):=hid HES.out
     clear HES
     have HES:=HES2
     clear HES2
     go_wp2_with fail
     go_region_law (fail)
     all_goals
      go_wp2_with fail
      have q4:=zMi (a0:=.int .i64 0) (a1:=.slice none 0 0) (a2:=.bool false) (a3:=.slice none 0 0) Z4.out
      refine bodyPost_ret (zAz rfl rfl rfl rfl (HasC.loadR (T:=180) (g:=z) (cs:=#[.int .i64 0,.slice none 0 0,.bool false,.slice none 0 0]) ?hz Tryz.rowNode Tryz.sizeNode)) rfl ?_
      case hz => exact q4.1
      have gg:=zEu G4.out q4.2 (by omega)
      refine ⟨⟨gg.os,gg.tape,gg.output,gg.size,gg.block⟩,?_⟩
      rw [HES.out]
      rfl
    ·have hw0:((ws.length:Int) == 0) = false:=by simp; exact hw
     have hwe:ws.isEmpty = false:=by cases ws with | nil => exact absurd rfl hw | cons _ _ => rfl
     go_wp2_with fail
     have q4:=zMi (a0:=.int .i64 x.1) (a1:=.slice A0 ws.length k0) (a2:=.bool false) (a3:=.slice none 0 0) Z4.out
     refine bodyPost_ret (zAz rfl rfl rfl rfl (HasC.loadR (T:=180) (g:=z) (cs:=#[.int .i64 x.1,.slice A0 ws.length k0,.bool false,.slice none 0 0]) ?hz Tryz.rowNode Tryz.sizeNode)) rfl ?_
     case hz => exact q4.1
     have gg:=zEu G4.out q4.2 (by omega)
     refine ⟨⟨gg.os,gg.tape,gg.output,gg.size,gg.block⟩,?_⟩
     have HES2:nodeN lines m x.1 (x :: t) [] = .ok (.mk x.1 ws false [],r):=by rw [HES.out,hwe]; rfl
     rw [HES2]
     have R5:=R4.out.kept q4.2 (.inr E8.out)
     exact ⟨_,rfl,NdC.iff.2 ⟨_,_,rfl,WdS.own R5 (fun k hk => (R5.lt k hk).1),NdV.nil⟩,H4.out.other q4.2 (fun k hk => by injection hk with hk; omega)⟩
   | false =>
    rw [h59] at p59
    cases h123:(yt == [123]) with
    | true =>
     rw [h123] at p123
     obtain rfl:yt = [123]:=by simpa using h123
     have d125:(([123]:List UInt8) == [125]) = false:=by decide
     rw [d125] at p125
     by_cases hw:ws = []
     ·subst hw
      have HES2:Hid (nodeN lines m x.1 (x :: t) [] = .error yl):=hid HES.out
      clear HES
      have HES:=HES2
      clear HES2
      go_wp2_with fail
      go_region_law (fail)
      all_goals
       go_wp2_with fail
       have q4:=zMi (a0:=.int .i64 0) (a1:=.slice none 0 0) (a2:=.bool false) (a3:=.slice none 0 0) Z4.out
       refine bodyPost_ret (zAz rfl rfl rfl rfl (HasC.loadR (T:=180) (g:=z) (cs:=#[.int .i64 0,.slice none 0 0,.bool false,.slice none 0 0]) ?hz Tryz.rowNode Tryz.sizeNode)) rfl ?_
       case hz => exact q4.1
       have gg:=zEu G4.out q4.2 (by omega)
       refine ⟨⟨gg.os,gg.tape,gg.output,gg.size,gg.block⟩,?_⟩
       rw [HES.out]
       rfl
     ·have hw0:((ws.length:Int) == 0) = false:=by simp; exact hw
      have hwe:ws.isEmpty = false:=by cases ws with | nil => exact absurd rfl hw | cons _ _ => rfl
      have HSQ:=hid (HS.out c B n' lines true r w4 (by have:=HH.out.1; omega) (by have:=HH.out.2.1; omega) (by omega) H4.out)
      clear z0 z1 z2 z3 fz
      go_wp2_with fail
      refine HSQ.out.mono ?_
      rintro e w5 ⟨hg5,hm5⟩
      have G5:=hid hg5
      have hs5:=G5.out.size
      have Z5:=hid (Z4.out.grown hg5 (fun e => by injection e; omega))
      have Q5:=hid (Q4.out.grown hg5 (fun e => by injection e; omega))
      have R5:=hid (R4.out.kept hg5 (.inr (fun e => by have:=(R4.out.lt _ e).1; omega)))
      clear hg5 HSQ t0 t1 qc0 qc1 qc2 qc3
      have hse:nodeN lines m x.1 (x :: t) [] = (match seqN lines n' true r [] with | .error l => .error l | .ok (ks,r') => .ok (.mk x.1 ws true ks,r')):=by rw [HES.out,hwe]; rfl
      generalize seqN lines n' true r [] = sq at hm5 hse
      have HSE:=hid hse
      have z0:=Z5.out.cell 0
      have z1:=Z5.out.cell 1
      have z2:=Z5.out.cell 2
      have z3:=Z5.out.cell 3
      have fz:=Z5.out.frz
      clear hse HES
      cases sq with
      | error l =>
       obtain rfl:e = _:=hm5
       go_wp2_with fail
       have q4:=zMi (a0:=.int .i64 0) (a1:=.slice none 0 0) (a2:=.bool false) (a3:=.slice none 0 0) Z5.out
       refine bodyPost_ret (zAz rfl rfl rfl rfl (HasC.loadR (T:=180) (g:=z) (cs:=#[.int .i64 0,.slice none 0 0,.bool false,.slice none 0 0]) ?hz Tryz.rowNode Tryz.sizeNode)) rfl ?_
       case hz => exact q4.1
       have gg:=zEu (zDk G4.out G5.out) q4.2 (by omega)
       refine ⟨⟨gg.os,gg.tape,gg.output,gg.size,gg.block⟩,?_⟩
       rw [HSE.out]
       rfl
      | ok a =>
       obtain ⟨ks,r'⟩:=a
       obtain ⟨kv,rfl,hkd,hcu⟩:=hm5
       obtain ⟨Ak,ck,rfl, -⟩:=id hkd
       have KD:=hid hkd
       have CU:=hid hcu
       clear hkd hcu
       have qc0:w5.cell? ⟨q,0,none⟩ = some (.int .i64 x.1):=Q5.out.cell 0
       have qc1:w5.cell? ⟨q,1,none⟩ = some (.slice A0 ws.length k0):=Q5.out.cell 1
       have qc2:w5.cell? ⟨q,2,none⟩ = some (.bool false):=Q5.out.cell 2
       have qc3:w5.cell? ⟨q,3,none⟩ = some (.slice none 0 0):=Q5.out.cell 3
       have fq:=Q5.out.frz
       go_wp2_with fail
       have gq:w5.grownBy ((w5.setCell ⟨q,2,none⟩ (.bool true)).setCell ⟨q,3,none⟩ (.slice Ak ks.length ck)) (some q):=zDk (zAy _ _ _ _) (zAy _ _ _ _)
       have Z6:=Z5.out.grown gq (fun e => by injection e; omega)
       have q4:=zMi (a0:=.int .i64 x.1) (a1:=.slice A0 ws.length k0) (a2:=.bool true) (a3:=.slice Ak ks.length ck) Z6
       refine bodyPost_ret (zAz rfl rfl rfl rfl (HasC.loadR (T:=180) (g:=z) (cs:=#[.int .i64 x.1,.slice A0 ws.length k0,.bool true,.slice Ak ks.length ck]) ?hz Tryz.rowNode Tryz.sizeNode)) rfl ?_
       case hz => exact q4.1
       have g6:=zEu (zDk G4.out G5.out) gq (by omega)
       have gg:=zEu g6 q4.2 (by omega)
       refine ⟨⟨gg.os,gg.tape,gg.output,gg.size,gg.block⟩,?_⟩
       rw [HSE.out]
       have R6:=(R5.out.kept gq (.inr E9.out)).kept q4.2 (.inr E8.out)
       exact ⟨_,rfl,NdC.iff.2 ⟨_,_,rfl,WdS.own R6 (fun k hk => (R6.lt k hk).1),KD.out.frame (fun k hk hl => ⟨by omega,(q4.2.block k (by have:=gq.size; omega) (fun e => by injection e; omega)).trans (gq.block k hl (fun e => by injection e; omega))⟩) (Nat.le_trans gq.size q4.2.size)⟩,(CU.out.other gq (fun k hk => by injection hk with hk; omega)).other q4.2 (fun k hk => by injection hk with hk; omega)⟩
    | false =>
     rw [h123] at p123
     cases h125:(yt == [125]) with
     | true =>
      rw [h125] at p125
      obtain rfl:yt = [125]:=by simpa using h125
      have HES2:Hid (nodeN lines m x.1 (x :: t) [] = .error yl):=hid (by rw [HES.out]; cases ws <;> rfl)
      clear HES
      have HES:=HES2
      clear HES2
      by_cases hw:ws = []
      ·subst hw
       go_wp2_with fail
       go_region_law (fail)
       all_goals
        go_wp2_with fail
        have q4:=zMi (a0:=.int .i64 0) (a1:=.slice none 0 0) (a2:=.bool false) (a3:=.slice none 0 0) Z4.out
        refine bodyPost_ret (zAz rfl rfl rfl rfl (HasC.loadR (T:=180) (g:=z) (cs:=#[.int .i64 0,.slice none 0 0,.bool false,.slice none 0 0]) ?hz Tryz.rowNode Tryz.sizeNode)) rfl ?_
        case hz => exact q4.1
        have gg:=zEu G4.out q4.2 (by omega)
        refine ⟨⟨gg.os,gg.tape,gg.output,gg.size,gg.block⟩,?_⟩
        rw [HES.out]
        rfl
      ·have hw0:((ws.length:Int) == 0) = false:=by simp; exact hw
       go_wp2_with fail
       go_region_law (fail)
       all_goals
        go_wp2_with fail
        have q4:=zMi (a0:=.int .i64 0) (a1:=.slice none 0 0) (a2:=.bool false) (a3:=.slice none 0 0) Z4.out
        refine bodyPost_ret (zAz rfl rfl rfl rfl (HasC.loadR (T:=180) (g:=z) (cs:=#[.int .i64 0,.slice none 0 0,.bool false,.slice none 0 0]) ?hz Tryz.rowNode Tryz.sizeNode)) rfl ?_
        case hz => exact q4.1
        have gg:=zEu G4.out q4.2 (by omega)
        refine ⟨⟨gg.os,gg.tape,gg.output,gg.size,gg.block⟩,?_⟩
        rw [HES.out]
        rfl
     | false =>
      rw [h125] at p125
      obtain ⟨i0,zz0,hi0,hz0,hk0,hs0,hb0⟩:=zLq Tryz.infoStr
      have Hi0:=hid hi0
      have Hz0:=hid hz0
      have Hk0:=hid hk0
      have Hs0:=hid hs0
      have Hb0:=hid hb0
      clear hi0 hz0 hk0 hs0 hb0
      have h65:=HH.out.2.1
      have hsz4:=G4.out.size
      have hsp:zLu yt = false:=by unfold zLu; rw [h59,h123,h125]; rfl
      have HES2:Hid (nodeN lines m x.1 (x :: t) [] = nodeN lines n' x.1 r (ws ++ [yt])):=hid (by rw [HES.out,if_pos (by rw [hsp]; rfl)])
      clear HES
      go_wp2_with (at_builtin; refine zJc w4 rfl _ _ _ rfl w.heap.size _ i0 _ _ _ Tryz.underlying52 Hi0.out Hz0.out Hs0.out Hb0.out Hk0.out (by decide) (.slice A0 ws.length k0) ws.length _ rfl R4.out #[.string (str yt)] rfl rfl (fun u hu => by simp only [List.mem_cons,List.not_mem_nil,or_false] at hu; subst hu; rfl) (by omega) (by decide) (by omega) ?_; intro v5 w5 ho5 hg5 hat5; obtain ⟨A5,k5,rfl⟩:=own_form1 ho5; have Q5:=Q4.out.grown hg5 (fun e => E9.out e.symm); have q51:=Q5.cell 1; have fq5:=Q5.frz)
      have hb5:∀ k,(Value.slice A0 ws.length k0).ownBlock = some k→w.heap.size≤k∧k < wr.heap.size:=fun k hk => E7.out.lt k hk
      have hq5:(Value.slice A5 (ws.length + 1) k5).ownBlock≠some q:=by
       rcases hat5 with e | e
       ·rw [e]; exact E9.out
       ·rw [e]; intro h; injection h with h; omega
      have hz5:(Value.slice A5 (ws.length + 1) k5).ownBlock≠some z:=by
       rcases hat5 with e | e
       ·rw [e]; exact E8.out
       ·rw [e]; intro h; injection h with h; omega
      go_roundg r.length
      case measure => omega
      case rel =>
       refine ⟨r,rfl,hid ⟨n', ws ++ [yt],.slice A5 (ws.length + 1) k5,HES2.out,by omega,(H4.out.other hg5 (fun k hk => ⟨by have:=(hb5 k hk).1; omega,by have:=(hb5 k hk).1; omega⟩)).other (zAy _ _ _ _) (fun k hk => by injection hk with hk; omega),zEu (grown_newR G4.out hg5 (fun k hk => (hb5 k hk).1)) (zAy _ _ _ _) (by omega),(Z4.out.grown hg5 (fun e => E8.out e.symm)).grown (zAy _ _ _ _) (fun e => by injection e; omega),Lib.heap_setCell_same (i:=1) (Q4.out.grown hg5 (fun e => E9.out e.symm)) _,?_,hz5,hq5,by simp only [List.length_append,List.length_cons,List.length_nil]; omega⟩⟩
       rw [List.length_append,List.map_append]
       exact ho5.kept (zAy _ _ _ _) (.inr hq5)
theorem nod_all:∀ N,NodC N∧SeqC N:=fun N => by
 induction N with
 | zero =>
  have h0:NodC 0:=fun c B m lines x t w h => absurd h (by omega)
  exact ⟨h0,seq_step 0 h0⟩
 | succ N ih => exact ⟨node_step N ih.2,seq_step (N + 1) (node_step N ih.2)⟩
theorem seq_any (N c B m:Nat) (lines:Int) (inner:Bool) (t:List Tk) (w:World) (hN:t.length≤N) (h6:t.length≤65536) (hm:2 * t.length + 2≤m) (h:Cu c B lines t w) :
  Calls Tryz.prog 66 #[.pointer (some ⟨c,0,none⟩),.bool inner] w (SeqP c B lines (seqN lines m inner t []) w):=(nod_all N).2 c B m lines inner t w hN h6 hm h
theorem own_nil {w:World} {B:Nat}:∀ {l:List Orow},(∀ o ∈ l,o.own w B∧o.v.ownBlock = none)→OwnAll w B l∧blks l = []:=fun h => by
 have hb:blks _ = []:=List.filterMap_eq_nil_iff.2 (fun o ho => (h o ho).2)
 exact ⟨⟨fun o ho => (h o ho).1,by show (blks _).Nodup; rw [hb]; exact List.nodup_nil⟩,hb⟩
theorem BR.zero {w w' : World} (hh:HasC 124 w.heap.size rtN.C w') (hB:Below w.heap.size w w'):BR w.heap.size w.heap.size w rtN [] w' := by
 obtain ⟨h1,h2⟩:=own_nil (w:=w') (B:=w.heap.size) (l:=btR rtN) (fun o ho => by
  simp only [btR,rtN,List.map_nil,List.nil_append,List.mem_cons,List.not_mem_nil,or_false] at ho
  rcases ho with rfl | rfl | rfl | rfl | rfl | rfl | rfl | rfl | rfl | rfl | rfl | rfl | rfl | rfl <;> exact ⟨rowE_own.2 OwnE.nil,rfl⟩)
 exact ⟨hh,h1,hB,Nat.le_refl _,Nat.le_refl _,by rw [h2]; exact List.not_mem_nil,fun k hk => by cases hk⟩
theorem BRes.stored {E:Rt→Int} {x:Int × Int × Rt} {B B' g:Nat} {e:Ending} {w w' : World} (h:BRes E x B e w) (hg:w.grownBy w' (some g)) (hB:B' ≤ g) (hgB:g < B):BRes E x B' e w' := by
 obtain ⟨r,h1,h2,h3,h4⟩:=h
 exact ⟨r,h1,h2,fun ks w'' hk hf => h3 (g :: ks) w'' (fun k hm => (List.mem_cons.1 hm).elim (fun e => e ▸ hgB) (fun hm => by have:=hk k hm; omega)) ((Fr.ofOne hg (by simp)).trans (hf.mono (fun k hm => List.mem_cons_of_mem _ hm))),h4⟩
theorem bparse_gen (E:Rt→Int) (CR:CRt E) (hE:∀ r,E r.plain = E r) (FC:∀ f,FormC f) (v:Value) (t:List Tk) (lines:Int) (w:World) (hs:Slc w w.heap.size 2 v t.length (t.flatMap zDn)) (hv:∃ A p,v = .slice A t.length p∧t.length≤p) (hl:0≤lines) (ht:∀ x ∈ t,TkN x) (hn:t.length≤65536) (he:EnvA w.heap.size w) :
  Calls Tryz.prog 20 #[v,.int .i64 lines] w fun e w' => Below w.heap.size w w' ∧ BRes E (zGl E lines t) w.heap.size e w' := by
 have HSO:=hid ((seq_ok hl (2 * t.length + 2)).1 false t [] ht (by rw [NdsOk]; trivial))
 obtain ⟨A0,p0,rfl,hp0⟩:=hv
 have HSL:=hid hs
 have HE:=hid he
 have HCR:=hid CR
 have HPE:=hid hE
 have HFC:=hid FC
 have HN:=hid hn
 have HP0:=hid hp0
 clear hs hl ht hn he CR hE FC hp0
 go_enter Tryz.func20,Tryz.ntmps20
 go_upto_region 1 with (fail)
 have HRES:=hid (HasC.new w 41 rtE)
 have HB1:=hid ((Below.refl w.heap.size w).alloc (Nat.le_refl _) (.cells rtE 41))
 change Code.wp _ _ _ _ (w.alloc (.cells rtE 41))
 generalize w.alloc (.cells rtE 41) = wA at HRES HB1 ⊢
 have hlt:=zAw HRES.out
 go_upto_region 2 with (fail)
 have HCN:=hid (HasC.new wA 118 #[.slice A0 t.length p0,.int .i64 lines])
 have HB2:=hid ((Below.refl wA.heap.size wA).alloc (Nat.le_refl _) (.cells #[.slice A0 t.length p0,.int .i64 lines] 118))
 change Code.wp _ _ _ _ (wA.alloc (.cells #[.slice A0 t.length p0,.int .i64 lines] 118))
 generalize wA.alloc (.cells #[.slice A0 t.length p0,.int .i64 lines] 118) = w2 at HCN HB2 ⊢
 have HCU:Hid (Cu wA.heap.size wA.heap.size lines t w2):=hid ⟨Nat.le_refl _,_,HCN.out,((HSL.out.below HB1.out).mono HB1.out.size).below HB2.out,A0,p0,rfl,HP0.out⟩
 have HSQ:=hid (seq_any t.length wA.heap.size wA.heap.size (2 * t.length + 2) lines false t w2 (Nat.le_refl _) HN.out (Nat.le_refl _) HCU.out)
 have hcl:=zAw HCN.out
 clear HCU HCN
 go_wp2_with fail
 refine HSQ.out.mono ?_
 rintro e w3 ⟨hg3,hm3⟩
 have HB3:Hid (Below wA.heap.size wA w3):=hid (HB2.out.trans (zBo hg3 (Nat.le_refl _) HB2.out.size))
 have HBW:Hid (Below w.heap.size w w3):=hid (HB1.out.trans (HB3.out.mono HB1.out.size))
 have HR3:=hid (HRES.out.below HB3.out hlt)
 have HSO2:=HSO.out
 clear hg3 HSQ HB2 HRES HSO
 generalize hsq:seqN lines (2 * t.length + 2) false t [] = sq at hm3 HSO2
 have HSE:=hid hsq
 clear hsq
 cases sq with
 | error l =>
  obtain rfl:e = _:=hm3
  have EP:Hid (zGl E lines t = (l,2,rtN)):=hid (by unfold zGl; rw [HSE.out])
  clear HSO2
  go_wp2_with (first | (refine zAc rfl 41 _ _ rfl rfl (ds:=rtE) rfl HR3.out rfl Tryz.sizeRt rtE_one ?_; intro wz hz1 hz2))
  refine bodyPost_ret (zAz rfl rfl rfl rfl (hz1.loadR Tryz.rowRt Tryz.sizeRt)) rfl ?_
  exact ⟨HBW.out.trans (zBo hz2 (Nat.le_refl _) HBW.out.size),by rw [EP.out]; exact BRes.bad (by decide)⟩
 | ok a =>
  obtain ⟨ns,tr⟩:=a
  obtain ⟨v3,rfl,hnd, -⟩:=hm3
  obtain ⟨hok, -,hsz⟩:=HSO2
  have HOK:=hid hok
  have HSZ:Hid (sizeL ns≤65536):=hid (by rw [show sizeL ([]:List Nd) = 0 from by rw [sizeL]] at hsz; have:=HN.out; dsimp only at hsz; omega)
  have HND:Hid (NdV w3 (· < w3.heap.size) v3 ns):=hid (hnd.frame (fun k _ hl => ⟨hl,rfl⟩) (Nat.le_refl _))
  obtain ⟨A3,p3,rfl⟩:∃ A c,v3 = .slice A ns.length c:=by obtain ⟨A,c,e, -⟩:=hnd; exact ⟨A,c,e⟩
  have HE3:=hid ((HE.out.keep HBW.out).up HBW.out.size)
  clear hnd hok hsz
  go_upto_region 6 with (fail)
  have HRD0:=hid (HasC.new w3 124 rtN.C)
  have HB4:=hid ((Below.refl w3.heap.size w3).alloc (Nat.le_refl _) (.cells rtN.C 124))
  change Code.wp _ _ _ _ (w3.alloc (.cells rtN.C 124))
  generalize w3.alloc (.cells rtN.C 124) = w4 at HRD0 HB4 ⊢
  have HZ:=hid (BR.zero HRD0.out HB4.out)
  have HRD:=hid (read_all HFC.out (sizeL ns) .top ns (.slice A3 ns.length p3) (.func (.func 68) #[.pointer (some ⟨w3.heap.size,0,none⟩)] #[]) w3.heap.size w3.heap.size 0 w3 w4 rtN [] (Nat.le_refl _) HZ.out rfl HND.out HOK.out HE3.out rtN_ok (by have:=HSZ.out; omega))
  have HLT3:=hid (Nat.lt_of_lt_of_le hlt HB3.out.size)
  clear HRD0 HZ HB4
  go_wp2_with fail
  refine HRD.out.mono ?_
  rintro e w5 ⟨r,res,hq,rfl,hbr, -⟩
  have hq' : readN .top [] ns rtN = (r.plain,res):=hq
  have HQ:=hid hq'
  have HBR:=hid hbr
  have HB5:=hid hbr.bel
  have HR5:=hid (HR3.out.below HB5.out HLT3.out)
  have HBX:Hid (Below w.heap.size w w5):=hid (HBW.out.trans (HB5.out.mono HBW.out.size))
  clear hq hq' hbr HRD
  cases res with
  | some le =>
   obtain ⟨l,e'⟩:=le
   have he2:e' = 2∨e' = 4:=zIv .top ns [] rtN (l,e') (by rw [HQ.out])
   have EP:Hid (zGl E lines t = (l,e', rtN)):=hid (by unfold zGl; rw [HSE.out]; dsimp only; rw [HQ.out])
   have hz:e' ≠ 0:=by rcases he2 with rfl | rfl <;> decide
   have d1:(e' != 0) = true:=by simpa using hz
   have HZ0:=hid hz
   rw [show resL (some (l,e')) = l from rfl,show resE (some (l,e')) = e' from rfl]
   clear he2 hz
   go_wp2_with (first | (refine zAc rfl 41 _ _ rfl rfl (ds:=rtE) rfl HR5.out rfl Tryz.sizeRt rtE_one ?_; intro wz hz1 hz2))
   refine bodyPost_ret (zAz rfl rfl rfl rfl (hz1.loadR Tryz.rowRt Tryz.sizeRt)) rfl ?_
   exact ⟨HBX.out.trans (zBo hz2 (Nat.le_refl _) HBX.out.size),by rw [EP.out]; exact BRes.bad HZ0.out⟩
  | none =>
   have EP:Hid (zGl E lines t = if E r = 0 then (lines,0,r.plain) else (lines,E r,rtN)):=hid (by unfold zGl; rw [HSE.out]; dsimp only; rw [HQ.out]; dsimp only; rw [HPE.out])
   have HFT:Hid r.fit:=hid (RtI.fits (by have h:=zLh .top ns [] rtN 0 rtN_ok; rw [HQ.out] at h; exact h) rfl)
   have HA5:=hid (HBR.out.at (ks:=[]) (fun _ h => by cases h) (Fr.refl _ _))
   have HC5:=hid (HCR.out r w5 w5.heap.size HA5.out (Nat.le_refl _) HFT.out)
   have HG5:=hid HBR.out.has
   rw [show resL none = 0 from rfl,show resE none = 0 from rfl]
   clear HQ HFC
   go_wp2_with (first | (refine zAa rfl 41 _ rfl rfl HG5.out.range Tryz.rowRt Tryz.sizeRt ?_))
   refine HC5.out.mono ?_
   rintro e w6 ⟨rfl,hb6⟩
   have HB6:=hid hb6
   have HR6:=hid (HR5.out.keep hb6)
   have HG6:=hid (HG5.out.keep hb6)
   have HBR6:=hid (HBR.out.on hb6)
   have HBY:Hid (Below w.heap.size w w6):=hid (HBX.out.trans (hb6.mono HBX.out.size))
   have HONE:=hid HA5.out.one
   clear hb6 HC5 HA5
   cases hE:(E r != 0) with
   | true =>
    have hne:E r≠0:=by simpa using hE
    have EP2:Hid (zGl E lines t = (lines,E r,rtN)):=hid (by rw [EP.out,if_neg hne])
    have HNE:=hid hne
    clear hne EP
    go_wp2_with (first | (refine zAc rfl 41 _ _ rfl rfl (ds:=rtE) rfl HR6.out rfl Tryz.sizeRt rtE_one ?_; intro wz hz1 hz2))
    refine bodyPost_ret (zAz rfl rfl rfl rfl (hz1.loadR Tryz.rowRt Tryz.sizeRt)) rfl ?_
    exact ⟨HBY.out.trans (zBo hz2 (Nat.le_refl _) HBY.out.size),by rw [EP2.out]; exact BRes.bad HNE.out⟩
   | false =>
    have h0:E r = 0:=by simpa using hE
    have EP2:Hid (zGl E lines t = (lines,0,r.plain)):=hid (by rw [EP.out,if_pos h0])
    have H0:=hid h0
    clear h0 EP
    go_wp2_with (first | (refine zAa rfl 41 _ rfl rfl HG6.out.range Tryz.rowRt Tryz.sizeRt ?_) | (refine zAc rfl 41 _ _ rfl rfl (ds:=r.C) rfl HR6.out rfl Tryz.sizeRt HONE.out ?_; intro wz hz1 hz2))
    refine bodyPost_ret (zAz rfl rfl rfl rfl (hz1.loadR Tryz.rowRt Tryz.sizeRt)) rfl ?_
    refine ⟨HBY.out.trans (zBo hz2 (Nat.le_refl _) HBY.out.size),?_⟩
    rw [EP2.out]
    exact BRes.ok rfl (fun ks wq hk hf => HBR6.out.at (ks:=w.heap.size :: ks) (fun k hm => (List.mem_cons.1 hm).elim (fun e => e ▸ HLT3.out) (fun hm => Nat.lt_trans (hk k hm) HLT3.out)) ((Fr.ofOne hz2 (by simp)).trans (hf.mono (fun k hm => List.mem_cons_of_mem _ hm)))) HFT.out H0.out
theorem bParse_gen (E:Rt→Int) (CR:CRt E) (hE:∀ r,E r.plain = E r) (FC:∀ f,FormC f):PRt E:=by
 intro s w he
 have HE:=hid he
 have HP:=hid (fun v t lines W => bparse_gen E CR hE FC v t lines W)
 clear he CR hE FC
 go_enter Tryz.func9,Tryz.ntmps9
 go_upto_region 1 with (fail)
 have HRES:=hid (HasC.new w 41 rtE)
 have HB1:=hid ((Below.refl w.heap.size w).alloc (Nat.le_refl _) (.cells rtE 41))
 change Code.wp _ _ _ _ (w.alloc (.cells rtE 41))
 generalize w.alloc (.cells rtE 41) = wA at HRES HB1 ⊢
 have hlt:=zAw HRES.out
 have HX:=hid (tokens_any s wA)
 by_cases hk:zBc (bytes s) = 0
 ·have HK:=hid hk
  have HT:=hid (toks_ok hk)
  have e1:tokRes (bytes s) = zDg (bytes s):=if_pos hk
  have e2:zFu (bytes s) = zCa (bytes s):=if_pos hk
  have HPB:Hid (zIp E (bytes s) = zGl E ((zCa (bytes s)).length:Int) (zDg (bytes s))):=hid (if_pos hk)
  go_wp2_with fail
  refine HX.out.mono ?_
  rintro e w1 ⟨v1,rfl,ho1,hb1⟩
  rw [HK.out,e2]
  rw [e1] at ho1
  have HB2:=hid hb1
  have HO1:=hid (Slc.of_own ho1)
  have HF:Hid (∃ A p,v1 = .slice A (zDg (bytes s)).length p∧(zDg (bytes s)).length≤p):=hid (by
   obtain ⟨-,h⟩:=ho1
   rcases h with ⟨rfl,h0⟩ | ⟨g,cap,cur,rfl, -, -,h4, -⟩
   ·exact ⟨none,0,by rw [h0],by omega⟩
   ·exact ⟨_,_,rfl,h4⟩)
  have HBW:Hid (Below w.heap.size w w1):=hid (HB1.out.trans (hb1.mono HB1.out.size))
  have HR1:=hid (HRES.out.below hb1 hlt)
  have hlt1:=Nat.lt_of_lt_of_le hlt hb1.size
  clear ho1 hb1 hk e1 e2 HX
  go_wp2_with fail
  refine (HP.out v1 (zDg (bytes s)) ((zCa (bytes s)).length:Int) w1 HO1.out HF.out (by omega) HT.out.1 HT.out.2 ((HE.out.keep HBW.out).up HBW.out.size)).mono ?_
  rintro e w2 ⟨hb2,hr⟩
  have HB3:=hid (HBW.out.trans (hb2.mono HBW.out.size))
  have HR2:=hid (HR1.out.below hb2 hlt1)
  have HR:=hid hr
  obtain ⟨r, -,rfl,hat, -⟩:=hr
  have HONE:=hid (hat [] w2 (fun _ h => by cases h) (Fr.refl _ _)).one
  clear hb2 hat
  go_wp2_with (first | (refine zAc rfl 41 _ _ rfl rfl (ds:=r.C) rfl HR2.out rfl Tryz.sizeRt HONE.out ?_; intro wz hz1 hz2))
  refine bodyPost_ret (zAz rfl rfl rfl rfl (hz1.loadR Tryz.rowRt Tryz.sizeRt)) rfl ?_
  exact ⟨HB3.out.trans (zBo hz2 (Nat.le_refl _) HB3.out.size),by rw [HPB.out]; exact HR.out.stored hz2 (Nat.le_refl _) hlt1⟩
 ·have d:(zBc (bytes s) != 0) = true:=by simpa using hk
  have HPB:Hid (zIp E (bytes s) = (0,zBc (bytes s),rtN)):=hid (if_neg hk)
  have HK:=hid hk
  clear hk
  go_wp2_with fail
  refine HX.out.mono ?_
  rintro e w1 ⟨v1,rfl, -,hb1⟩
  have HBW:Hid (Below w.heap.size w w1):=hid (HB1.out.trans (hb1.mono HB1.out.size))
  have HR1:=hid (HRES.out.below hb1 hlt)
  clear hb1
  go_wp2_with (first | (refine zAc rfl 41 _ _ rfl rfl (ds:=rtE) rfl HR1.out rfl Tryz.sizeRt rtE_one ?_; intro wz hz1 hz2))
  refine bodyPost_ret (zAz rfl rfl rfl rfl (hz1.loadR Tryz.rowRt Tryz.sizeRt)) rfl ?_
  exact ⟨HBW.out.trans (zBo hz2 (Nat.le_refl _) HBW.out.size),by rw [HPB.out]; exact BRes.bad HK.out⟩
def zFq (x:If):Bool:=zAg x.len 0 32 && zAg x.vlan 0 4094 && zAg x.side 0 2 && !(x.len == 0 && (!(x.addr == 0) || !(x.vlan == 0) || !(x.side == 0) || x.ls || x.dv || !x.inn.isEmpty || !x.out.isEmpty)) && !(!(x.len == 0) && x.addr == 0) && (if x.ls then zAg x.area 0 255 && zAg x.cost 1 65535 else x.area == 0 && x.cost == 0)
theorem zLl (x:If) (w:World):Calls Tryz.prog 168 #[.agg x.C] w fun e w' => e = .returned (.bool (zFq x))∧Below w.heap.size w w' := by
 have B0:=hid (fun o => (Below.refl w.heap.size w).alloc (Nat.le_refl _) o)
 have HW:=hid (fun n lo hi w => zAl n lo hi w)
 obtain ⟨name,addr,len,vlan,down,ls,area,cost,dv,inn,out,side⟩:=x
 have E:Hid (zFq ⟨name,addr,len,vlan,down,ls,area,cost,dv,inn,out,side⟩ = (zAg len 0 32 && zAg vlan 0 4094 && zAg side 0 2 && !(len == 0 && (!(addr == 0) || !(vlan == 0) || !(side == 0) || ls || dv || !inn.isEmpty || !out.isEmpty)) && !(!(len == 0) && addr == 0) && (if ls then zAg area 0 255 && zAg cost 1 65535 else area == 0 && cost == 0))):=hid rfl
 generalize zFq ⟨name,addr,len,vlan,down,ls,area,cost,dv,inn,out,side⟩ = res at E ⊢
 unfold If.C
 try unfold strV
 dsimp only
 cases h1:zAg len 0 32 with
 | false =>
  go_enter Tryz.func168,Tryz.ntmps168
  go_wp2_with (go_at_call 88; refine (HW.out _ _ _ _).mono ?_; rintro e w' ⟨rfl,rfl⟩)
  all_goals (go_ret; exact ⟨zAd (by rw [E.out]; first | (simp [*]; done) | (simp [*]; omega)),B0.out _⟩)
 | true =>
  cases h2:zAg vlan 0 4094 with
  | false =>
   go_enter Tryz.func168,Tryz.ntmps168
   go_wp2_with (go_at_call 88; refine (HW.out _ _ _ _).mono ?_; rintro e w' ⟨rfl,rfl⟩)
   all_goals (go_ret; exact ⟨zAd (by rw [E.out]; first | (simp [*]; done) | (simp [*]; omega)),B0.out _⟩)
  | true =>
   cases h3:zAg side 0 2 with
   | false =>
    go_enter Tryz.func168,Tryz.ntmps168
    go_wp2_with (go_at_call 88; refine (HW.out _ _ _ _).mono ?_; rintro e w' ⟨rfl,rfl⟩)
    all_goals (go_ret; exact ⟨zAd (by rw [E.out]; first | (simp [*]; done) | (simp [*]; omega)),B0.out _⟩)
   | true =>
    by_cases h4:len = 0
    ·subst h4
     by_cases h5:addr = 0
     ·subst h5
      by_cases h6:vlan = 0
      ·subst h6
       by_cases h7:side = 0
       ·subst h7
        cases ls with
        | false =>
         cases dv with
         | false =>
          have h10t:=zAb inn
          cases inn with
          | nil =>
           have h11t:=zAb out
           cases out with
           | nil =>
            by_cases h12:area = 0
            ·subst h12
             by_cases h13:cost = 0
             ·subst h13
              go_enter Tryz.func168,Tryz.ntmps168
              go_wp2_with (go_at_call 88; refine (HW.out _ _ _ _).mono ?_; rintro e w' ⟨rfl,rfl⟩)
              all_goals (go_ret; exact ⟨zAd (by rw [E.out]; first | (simp [*]; done) | (simp [*]; omega)),B0.out _⟩)
             ·have h13a:(cost == 0) = false:=by simpa using h13
              have h13b:(cost != 0) = true:=by simpa using h13
              go_enter Tryz.func168,Tryz.ntmps168
              go_wp2_with (go_at_call 88; refine (HW.out _ _ _ _).mono ?_; rintro e w' ⟨rfl,rfl⟩)
              all_goals (go_ret; exact ⟨zAd (by rw [E.out]; first | (simp [*]; done) | (simp [*]; omega)),B0.out _⟩)
            ·have h12a:(area == 0) = false:=by simpa using h12
             have h12b:(area != 0) = true:=by simpa using h12
             go_enter Tryz.func168,Tryz.ntmps168
             go_wp2_with (go_at_call 88; refine (HW.out _ _ _ _).mono ?_; rintro e w' ⟨rfl,rfl⟩)
             all_goals (go_ret; exact ⟨zAd (by rw [E.out]; first | (simp [*]; done) | (simp [*]; omega)),B0.out _⟩)
           | cons c13 k13 =>
            go_enter Tryz.func168,Tryz.ntmps168
            go_wp2_with (go_at_call 88; refine (HW.out _ _ _ _).mono ?_; rintro e w' ⟨rfl,rfl⟩)
            all_goals (go_ret; exact ⟨zAd (by rw [E.out]; first | (simp [*]; done) | (simp [*]; omega)),B0.out _⟩)
          | cons c13 k13 =>
           go_enter Tryz.func168,Tryz.ntmps168
           go_wp2_with (go_at_call 88; refine (HW.out _ _ _ _).mono ?_; rintro e w' ⟨rfl,rfl⟩)
           all_goals (go_ret; exact ⟨zAd (by rw [E.out]; first | (simp [*]; done) | (simp [*]; omega)),B0.out _⟩)
         | true =>
          go_enter Tryz.func168,Tryz.ntmps168
          go_wp2_with (go_at_call 88; refine (HW.out _ _ _ _).mono ?_; rintro e w' ⟨rfl,rfl⟩)
          all_goals (go_ret; exact ⟨zAd (by rw [E.out]; first | (simp [*]; done) | (simp [*]; omega)),B0.out _⟩)
        | true =>
         go_enter Tryz.func168,Tryz.ntmps168
         go_wp2_with (go_at_call 88; refine (HW.out _ _ _ _).mono ?_; rintro e w' ⟨rfl,rfl⟩)
         all_goals (go_ret; exact ⟨zAd (by rw [E.out]; first | (simp [*]; done) | (simp [*]; omega)),B0.out _⟩)
       ·have h7a:(side == 0) = false:=by simpa using h7
        have h7b:(side != 0) = true:=by simpa using h7
        go_enter Tryz.func168,Tryz.ntmps168
        go_wp2_with (go_at_call 88; refine (HW.out _ _ _ _).mono ?_; rintro e w' ⟨rfl,rfl⟩)
        all_goals (go_ret; exact ⟨zAd (by rw [E.out]; first | (simp [*]; done) | (simp [*]; omega)),B0.out _⟩)
      ·have h6a:(vlan == 0) = false:=by simpa using h6
       have h6b:(vlan != 0) = true:=by simpa using h6
       go_enter Tryz.func168,Tryz.ntmps168
       go_wp2_with (go_at_call 88; refine (HW.out _ _ _ _).mono ?_; rintro e w' ⟨rfl,rfl⟩)
       all_goals (go_ret; exact ⟨zAd (by rw [E.out]; first | (simp [*]; done) | (simp [*]; omega)),B0.out _⟩)
     ·have h5a:((addr:Int) == 0) = false:=by simp; omega
      have h5b:((addr:Int) != 0) = true:=by simp; omega
      have h5c:(addr == 0) = false:=by simpa using h5
      go_enter Tryz.func168,Tryz.ntmps168
      go_wp2_with (go_at_call 88; refine (HW.out _ _ _ _).mono ?_; rintro e w' ⟨rfl,rfl⟩)
      all_goals (go_ret; exact ⟨zAd (by rw [E.out]; first | (simp [*]; done) | (simp [*]; omega)),B0.out _⟩)
    ·have h4a:(len == 0) = false:=by simpa using h4
     have h4b:(len != 0) = true:=by simpa using h4
     by_cases h14:addr = 0
     ·subst h14
      go_enter Tryz.func168,Tryz.ntmps168
      go_wp2_with (go_at_call 88; refine (HW.out _ _ _ _).mono ?_; rintro e w' ⟨rfl,rfl⟩)
      all_goals (go_ret; exact ⟨zAd (by rw [E.out]; first | (simp [*]; done) | (simp [*]; omega)),B0.out _⟩)
     ·have h14a:((addr:Int) == 0) = false:=by simp; omega
      have h14b:((addr:Int) != 0) = true:=by simp; omega
      have h14c:(addr == 0) = false:=by simpa using h14
      cases ls with
      | false =>
       by_cases h16:area = 0
       ·subst h16
        by_cases h17:cost = 0
        ·subst h17
         go_enter Tryz.func168,Tryz.ntmps168
         go_wp2_with (go_at_call 88; refine (HW.out _ _ _ _).mono ?_; rintro e w' ⟨rfl,rfl⟩)
         all_goals (go_ret; exact ⟨zAd (by rw [E.out]; first | (simp [*]; done) | (simp [*]; omega)),B0.out _⟩)
        ·have h17a:(cost == 0) = false:=by simpa using h17
         have h17b:(cost != 0) = true:=by simpa using h17
         go_enter Tryz.func168,Tryz.ntmps168
         go_wp2_with (go_at_call 88; refine (HW.out _ _ _ _).mono ?_; rintro e w' ⟨rfl,rfl⟩)
         all_goals (go_ret; exact ⟨zAd (by rw [E.out]; first | (simp [*]; done) | (simp [*]; omega)),B0.out _⟩)
       ·have h16a:(area == 0) = false:=by simpa using h16
        have h16b:(area != 0) = true:=by simpa using h16
        go_enter Tryz.func168,Tryz.ntmps168
        go_wp2_with (go_at_call 88; refine (HW.out _ _ _ _).mono ?_; rintro e w' ⟨rfl,rfl⟩)
        all_goals (go_ret; exact ⟨zAd (by rw [E.out]; first | (simp [*]; done) | (simp [*]; omega)),B0.out _⟩)
      | true =>
       cases h18:zAg area 0 255 with
       | false =>
        go_enter Tryz.func168,Tryz.ntmps168
        go_wp2_with (go_at_call 88; refine (HW.out _ _ _ _).mono ?_; rintro e w' ⟨rfl,rfl⟩)
        all_goals (go_ret; exact ⟨zAd (by rw [E.out]; first | (simp [*]; done) | (simp [*]; omega)),B0.out _⟩)
       | true =>
        cases h19:zAg cost 1 65535 with
        | false =>
         go_enter Tryz.func168,Tryz.ntmps168
         go_wp2_with (go_at_call 88; refine (HW.out _ _ _ _).mono ?_; rintro e w' ⟨rfl,rfl⟩)
         all_goals (go_ret; exact ⟨zAd (by rw [E.out]; first | (simp [*]; done) | (simp [*]; omega)),B0.out _⟩)
        | true =>
         go_enter Tryz.func168,Tryz.ntmps168
         go_wp2_with (go_at_call 88; refine (HW.out _ _ _ _).mono ?_; rintro e w' ⟨rfl,rfl⟩)
         all_goals (go_ret; exact ⟨zAd (by rw [E.out]; first | (simp [*]; done) | (simp [*]; omega)),B0.out _⟩)
def zEt (x:Cl):Bool:=zAg x.tag (-1) 65535 && zAg x.setM (-1) 16777215 && zAg x.setT (-1) 65535 && zAg x.setP (-1) 1000000 && zAg x.prep 0 8
theorem zIw (x:Cl) (w:World):Calls Tryz.prog 175 #[.agg x.C] w fun e w' => e = .returned (.bool (zEt x))∧Below w.heap.size w w' := by
 have B0:=hid (fun o => (Below.refl w.heap.size w).alloc (Nat.le_refl _) o)
 have HW:=hid (fun n lo hi w => zAl n lo hi w)
 obtain ⟨permit,list,tag,setM,setT,setP,prep⟩:=x
 have E:Hid (zEt ⟨permit,list,tag,setM,setT,setP,prep⟩ = (zAg tag (-1) 65535 && zAg setM (-1) 16777215 && zAg setT (-1) 65535 && zAg setP (-1) 1000000 && zAg prep 0 8)):=hid rfl
 generalize zEt ⟨permit,list,tag,setM,setT,setP,prep⟩ = res at E ⊢
 unfold Cl.C
 try unfold strV
 dsimp only
 cases h1:zAg tag (-1) 65535 with
 | false =>
  go_enter Tryz.func175,Tryz.ntmps175
  go_wp2_with (go_at_call 88; refine (HW.out _ _ _ _).mono ?_; rintro e w' ⟨rfl,rfl⟩)
  all_goals (go_ret; exact ⟨zAd (by rw [E.out]; first | (simp [*]; done) | (simp [*]; omega)),B0.out _⟩)
 | true =>
  cases h2:zAg setM (-1) 16777215 with
  | false =>
   go_enter Tryz.func175,Tryz.ntmps175
   go_wp2_with (go_at_call 88; refine (HW.out _ _ _ _).mono ?_; rintro e w' ⟨rfl,rfl⟩)
   all_goals (go_ret; exact ⟨zAd (by rw [E.out]; first | (simp [*]; done) | (simp [*]; omega)),B0.out _⟩)
  | true =>
   cases h3:zAg setT (-1) 65535 with
   | false =>
    go_enter Tryz.func175,Tryz.ntmps175
    go_wp2_with (go_at_call 88; refine (HW.out _ _ _ _).mono ?_; rintro e w' ⟨rfl,rfl⟩)
    all_goals (go_ret; exact ⟨zAd (by rw [E.out]; first | (simp [*]; done) | (simp [*]; omega)),B0.out _⟩)
   | true =>
    cases h4:zAg setP (-1) 1000000 with
    | false =>
     go_enter Tryz.func175,Tryz.ntmps175
     go_wp2_with (go_at_call 88; refine (HW.out _ _ _ _).mono ?_; rintro e w' ⟨rfl,rfl⟩)
     all_goals (go_ret; exact ⟨zAd (by rw [E.out]; first | (simp [*]; done) | (simp [*]; omega)),B0.out _⟩)
    | true =>
     cases h5:zAg prep 0 8 with
     | false =>
      go_enter Tryz.func175,Tryz.ntmps175
      go_wp2_with (go_at_call 88; refine (HW.out _ _ _ _).mono ?_; rintro e w' ⟨rfl,rfl⟩)
      all_goals (go_ret; exact ⟨zAd (by rw [E.out]; first | (simp [*]; done) | (simp [*]; omega)),B0.out _⟩)
     | true =>
      go_enter Tryz.func175,Tryz.ntmps175
      go_wp2_with (go_at_call 88; refine (HW.out _ _ _ _).mono ?_; rintro e w' ⟨rfl,rfl⟩)
      all_goals (go_ret; exact ⟨zAd (by rw [E.out]; first | (simp [*]; done) | (simp [*]; omega)),B0.out _⟩)
def zHy (lo hi:Int):Bool:=decide (0≤lo) && decide (lo≤hi) && decide (hi≤65535)
theorem zJu (lo hi:Int) (w:World):Calls Tryz.prog 236 #[.agg #[.int .i64 lo,.int .i64 hi]] w fun e w' => e = .returned (.bool (zHy lo hi))∧Below w.heap.size w w' := by
 have B0:=hid (fun o => (Below.refl w.heap.size w).alloc (Nat.le_refl _) o)
 have E:Hid (zHy lo hi = (decide (0≤lo) && decide (lo≤hi) && decide (hi≤65535))):=hid rfl
 generalize zHy lo hi = res at E ⊢
 by_cases h1:0≤lo
 ·have h1d:=decide_eq_true h1
  by_cases h2:lo≤hi
  ·have h2d:=decide_eq_true h2
   by_cases h3:hi≤65535
   ·have h3d:=decide_eq_true h3
    go_enter Tryz.func236,Tryz.ntmps236
    go_wp2_with fail
    all_goals (go_ret; exact ⟨zAd (by rw [E.out]; first | (simp [*]; done) | (simp [*]; omega)),B0.out _⟩)
   ·have h3d:=decide_eq_false h3
    go_enter Tryz.func236,Tryz.ntmps236
    go_wp2_with fail
    all_goals (go_ret; exact ⟨zAd (by rw [E.out]; first | (simp [*]; done) | (simp [*]; omega)),B0.out _⟩)
  ·have h2d:=decide_eq_false h2
   go_enter Tryz.func236,Tryz.ntmps236
   go_wp2_with fail
   all_goals (go_ret; exact ⟨zAd (by rw [E.out]; first | (simp [*]; done) | (simp [*]; omega)),B0.out _⟩)
 ·have h1d:=decide_eq_false h1
  go_enter Tryz.func236,Tryz.ntmps236
  go_wp2_with fail
  all_goals (go_ret; exact ⟨zAd (by rw [E.out]; first | (simp [*]; done) | (simp [*]; omega)),B0.out _⟩)
def listE (k first:Int) (name:List UInt8) (size most:Int):Int:=if !nameB name then 3 else if first < k then 4 else if size = 0 then 1 else if most < size then 7 else 0
theorem zIo (k first:Int) (name:List UInt8) (size most:Int) (w:World):Calls Tryz.prog 171 #[.int .i64 k,.int .i64 first,.string (str name),.int .i64 size,.int .i64 most] w fun e w' => e = .returned (.int .i64 (listE k first name size most))∧w = w' := by
 have HN:Hid (∀ w,Calls Tryz.prog 87 #[.string (str name)] w fun e w' => e = .returned (.bool (nameB name))∧w = w'):=hid (fun w => by have:=name_any (str name) w; rwa [zBa] at this)
 have E:Hid (listE k first name size most = if !nameB name then 3 else if first < k then 4 else if size = 0 then 1 else if most < size then 7 else 0):=hid rfl
 generalize listE k first name size most = res at E ⊢
 cases h1:nameB name with
 | false =>
  go_enter Tryz.func171,Tryz.ntmps171
  go_wp2_with (go_at_call 87; refine (HN.out _).mono ?_; rintro e w' ⟨rfl,rfl⟩)
  all_goals (go_ret; exact ⟨zAe (by rw [E.out]; first | (simp [*]; done) | (simp [*]; omega)),rfl⟩)
 | true =>
  by_cases h2:first < k
  ·have h2d:=decide_eq_true h2
   go_enter Tryz.func171,Tryz.ntmps171
   go_wp2_with (go_at_call 87; refine (HN.out _).mono ?_; rintro e w' ⟨rfl,rfl⟩)
   all_goals (go_ret; exact ⟨zAe (by rw [E.out]; first | (simp [*]; done) | (simp [*]; omega)),rfl⟩)
  ·have h2d:=decide_eq_false h2
   by_cases h3:size = 0
   ·subst h3
    go_enter Tryz.func171,Tryz.ntmps171
    go_wp2_with (go_at_call 87; refine (HN.out _).mono ?_; rintro e w' ⟨rfl,rfl⟩)
    all_goals (go_ret; exact ⟨zAe (by rw [E.out]; first | (simp [*]; done) | (simp [*]; omega)),rfl⟩)
   ·have h3a:(size == 0) = false:=by simpa using h3
    have h3b:(size != 0) = true:=by simpa using h3
    by_cases h4:most < size
    ·have h4d:=decide_eq_true h4
     go_enter Tryz.func171,Tryz.ntmps171
     go_wp2_with (go_at_call 87; refine (HN.out _).mono ?_; rintro e w' ⟨rfl,rfl⟩)
     all_goals (go_ret; exact ⟨zAe (by rw [E.out]; first | (simp [*]; done) | (simp [*]; omega)),rfl⟩)
    ·have h4d:=decide_eq_false h4
     go_enter Tryz.func171,Tryz.ntmps171
     go_wp2_with (go_at_call 87; refine (HN.out _).mono ?_; rintro e w' ⟨rfl,rfl⟩)
     all_goals (go_ret; exact ⟨zAe (by rw [E.out]; first | (simp [*]; done) | (simp [*]; omega)),rfl⟩)
end Go.Proofs.YtdlgnhefpoalnaaGreatDoor
