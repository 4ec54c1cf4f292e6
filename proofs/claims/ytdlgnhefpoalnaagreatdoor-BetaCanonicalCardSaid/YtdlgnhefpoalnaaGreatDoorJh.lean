/- The walks of the reference's functions on prefixes. Condition: addresses are numbers below 2^32. -/
import Derived.Test.YtdlgnhefpoalnaaGreatDoorJe
import Derived.Deep.RegionHeld3
import Derived.Deep.LoopGhost
set_option maxHeartbeats 1000000
namespace Go.Proofs.YtdlgnhefpoalnaaGreatDoor
open Lib (hid)
open Go.RowKit
theorem quiet_l {P:Program} {f:FuncId} {args:Array Value} {w:World} {n:Nat} {v:Value}
  (h:Calls P f args (w.drewN n) fun e w' => e = .returned v∧w.drewN n = w'):Calls P f args (w.drewN n) fun e w'' => e = .returned v∧∃ m,w'' = w.drewN m :=
 h.mono fun _ _ ⟨he,hm⟩ => ⟨he,n,hm.symm⟩
theorem zLe (w:World) (o:Obj) (q:Nat):Below w.heap.size w ((w.alloc o).drewN q):=((Below.refl _ _).alloc (Nat.le_refl _) o).trans ⟨rfl,rfl,rfl,Nat.le_refl _,fun _ _ => rfl⟩
theorem clamp_any (n:Int) (w:World):Calls Tryz.prog 229 #[.int .i64 n] w fun e w' => e = .returned (.int .i64 (zCq n:Int))∧w = w' := by
 have hc:=clampN_cast n
 by_cases h1:32 < n
 ·have e:(zCq n:Int) = 32:=by omega
  clear hc
  go_enter Tryz.func229,Tryz.ntmps229
  go_wp2
  go_ret
  exact ⟨zAe (by rw [e]),rfl⟩
 by_cases h0:0 < n
 ·have e:(zCq n:Int) = n:=by omega
  have E:=hid e
  clear hc e
  go_enter Tryz.func229,Tryz.ntmps229
  go_wp2
  all_goals (go_ret; first | exact ⟨zAe E.out.symm,rfl⟩ | (exfalso; omega))
 ·have e:(zCq n:Int) = 0:=by omega
  have E:=hid e
  clear hc e
  go_enter Tryz.func229,Tryz.ntmps229
  go_wp2
  all_goals (go_ret; first | exact ⟨zAe E.out.symm,rfl⟩ | (exfalso; omega))
theorem zFy (n:Int) (w:World):Calls Tryz.prog 187 #[.int .i64 n] w fun e w' => e = .returned (.int .u32 (maskN n:Int))∧w = w' := by
 have h1:=clampN_le n
 have E:=hid (mask_shift' n)
 go_enter Tryz.func187,Tryz.ntmps187
 go_wp2_with fail
 refine (clamp_any _ _).mono ?_
 rintro e w' ⟨rfl,rfl⟩
 go_wp2_with fail
 go_ret
 exact ⟨zAe E.out,rfl⟩
set_option maxRecDepth 4000 in
theorem contains_any (p:Nat) (n:Int) (a:Nat) (w:World) (ha:a < 4294967296):Calls Tryz.prog 260 #[PV p n,.int .u32 (a:Int)] w fun e w' => e = .returned (.bool (contP p n a))∧Below w.heap.size w w' := by
 have hi:=i_and ha n
 have E:Hid ((((a / sz n * sz n:Nat):Int) == (p:Int)) = contP p n a):=hid (by unfold contP; rw [Bool.eq_iff_iff]; simp only [beq_iff_eq,decide_eq_true_eq]; omega)
 unfold PV
 go_enter Tryz.func260,Tryz.ntmps260
 go_wp2_with fail
 go_quiet ((go_at_call 187; exact quiet_l (zFy _ _)))
 go_wp2_with fail
 go_ret
 exact ⟨zAd E.out,zLe _ _ _⟩
set_option maxRecDepth 4000 in
theorem zFc (p:Nat) (n:Int) (w:World) (hp:p < 4294967296):Calls Tryz.prog 173 #[PV p n] w fun e w' => e = .returned (.bool (zAt p n))∧Below w.heap.size w w' := by
 have hi:=i_anot hp n
 unfold PV
 by_cases h0:0≤n
 ·by_cases h1:n≤32
  ·have E:Hid ((((p % sz n:Nat):Int) == 0) = zAt p n):=hid (by unfold zAt; simp only [h0,h1,decide_true,Bool.true_and]; rw [Bool.eq_iff_iff]; simp; omega)
   have d0:decide (0≤n) = true:=by simp [h0]
   have d1:decide (n≤32) = true:=by simp [h1]
   go_enter Tryz.func173,Tryz.ntmps173
   go_wp2_with fail
   go_quiet ((go_at_call 187; exact quiet_l (zFy _ _)))
   go_wp2_with fail
   go_ret
   exact ⟨zAd E.out,zLe _ _ _⟩
  ·have E:Hid (zAt p n = false):=hid (by unfold zAt; simp [h1])
   have d0:decide (0≤n) = true:=by simp [h0]
   have d1:decide (n≤32) = false:=by simp; omega
   clear hi
   go_enter Tryz.func173,Tryz.ntmps173
   go_wp2_with fail
   go_quiet (fail)
   go_wp2_with fail
   go_ret
   exact ⟨zAd E.out.symm,zLe _ _ _⟩
 ·have E:Hid (zAt p n = false):=hid (by unfold zAt; simp [h0])
  have d0:decide (0≤n) = false:=by simp; omega
  clear hi
  go_enter Tryz.func173,Tryz.ntmps173
  go_wp2_with fail
  go_quiet (fail)
  go_wp2_with fail
  go_ret
  exact ⟨zAd E.out.symm,zLe _ _ _⟩
theorem zDm (w:World) (cs:Array Value) (t:TypeId) (j:Nat):(w.alloc (.cells cs t)).cell? ⟨w.heap.size,j,none⟩ = cs[j]?:=World.cell?_alloc_at _ _ _ _ rfl
theorem zLs {w w1:World} {a b c d:Value} {t u:TypeId} (hb:Below ((w.alloc (.cells #[a,b] t)).alloc (.cells #[c,d] u)).heap.size ((w.alloc (.cells #[a,b] t)).alloc (.cells #[c,d] u)) w1) :
  (w1.cell? ⟨w.heap.size,0,none⟩ = some a∧w1.cell? ⟨w.heap.size,1,none⟩ = some b)∧(w1.cell? ⟨w.heap.size + 1,0,none⟩ = some c∧w1.cell? ⟨w.heap.size + 1,1,none⟩ = some d)∧w.heap.size + 2≤w1.heap.size∧Below w.heap.size w w1:=by
 have hz:((w.alloc (.cells #[a,b] t)).alloc (.cells #[c,d] u)).heap.size = w.heap.size + 2:=by simp
 have hs:=hb.size
 rw [hz] at hs
 have h1:∀ j,w1.cell? ⟨w.heap.size,j,none⟩ = (#[a,b]:Array Value)[j]?:=fun j => by
  rw [hb.cell (p:=⟨w.heap.size,j,none⟩) (by rw [hz]; show w.heap.size < _; omega),World.cell?_alloc_lt _ _ _ (by simp),zDm]
 have h2:∀ j,w1.cell? ⟨w.heap.size + 1,j,none⟩ = (#[c,d]:Array Value)[j]?:=fun j => by
  have e:w.heap.size + 1 = (w.alloc (.cells #[a,b] t)).heap.size:=by simp
  rw [hb.cell (p:=⟨w.heap.size + 1,j,none⟩) (by rw [hz]; show w.heap.size + 1 < _; omega),e,zDm]
 refine ⟨⟨h1 0,h1 1⟩,⟨h2 0,h2 1⟩,hs,?_⟩
 exact (((Below.refl _ w).alloc (Nat.le_refl _) _).alloc (by simp) _).trans (hb.mono (by rw [hz]; omega))
set_option maxRecDepth 4000 in
theorem covers_any (p:Nat) (n:Int) (q:Nat) (m:Int) (w:World) (hq:q < 4294967296):Calls Tryz.prog 228 #[PV p n,PV q m] w fun e w' => e = .returned (.bool (covP p n q m))∧Below w.heap.size w w' := by
 unfold PV
 by_cases h:n≤m
 ·have d:decide (n≤m) = true:=by simp [h]
  have E:Hid (contP p n q = covP p n q m):=hid (by unfold covP; rw [d]; rfl)
  go_enter Tryz.func228,Tryz.ntmps228
  go_wp2_with fail
  refine (contains_any p n q _ hq).mono ?_
  rintro e w1 ⟨rfl,hb1⟩
  obtain ⟨_,_,_,hb⟩:=zLs hb1
  clear hb1
  go_wp2_with fail
  go_ret
  exact ⟨zAd E.out,hb⟩
 ·have d:decide (n≤m) = false:=by simp; omega
  have E:Hid (covP p n q m = false):=hid (by unfold covP; rw [d]; rfl)
  go_enter Tryz.func228,Tryz.ntmps228
  go_wp2_with fail
  go_ret
  exact ⟨zAd E.out.symm,((Below.refl _ w).alloc (Nat.le_refl _) _).alloc (by simp) _⟩
set_option maxRecDepth 4000 in
theorem zMh (p:Nat) (n:Int) (q:Nat) (m:Int) (w:World) (hp:p < 4294967296) (hq:q < 4294967296):Calls Tryz.prog 169 #[PV p n,PV q m] w fun e w' => e = .returned (.bool (overP p n q m))∧Below w.heap.size w w' := by
 unfold PV
 have C1:=fun w => covers_any p n q m w hq
 have C2:=fun w => covers_any q m p n w hp
 unfold PV at C1 C2
 have H1:=hid C1
 have H2:=hid C2
 clear C1 C2
 cases hc:covP p n q m with
 | true =>
  have E:Hid (overP p n q m = true):=hid (by unfold overP; rw [hc]; rfl)
  go_enter Tryz.func169,Tryz.ntmps169
  go_wp2_with fail
  refine (H1.out _).mono ?_
  rintro e w1 ⟨rfl,hb1⟩
  obtain ⟨_,_,_,hb⟩:=zLs hb1
  clear hb1
  go_wp2_with fail
  go_ret
  exact ⟨zAd E.out.symm,hb⟩
 | false =>
  have E:Hid (covP q m p n = overP p n q m):=hid (by unfold overP; rw [hc]; rfl)
  go_enter Tryz.func169,Tryz.ntmps169
  go_wp2_with fail
  refine (H1.out _).mono ?_
  rintro e w1 ⟨rfl,hb1⟩
  obtain ⟨⟨c0,c1⟩,⟨c2,c3⟩,hz,hb⟩:=zLs hb1
  clear hb1
  go_wp2_with fail
  refine (H2.out _).mono ?_
  rintro e w2 ⟨rfl,hb2⟩
  clear c0 c1 c2 c3
  go_wp2_with fail
  go_ret
  exact ⟨zAd E.out,hb.trans (hb2.mono (by omega))⟩
set_option maxRecDepth 4000 in
theorem network_any (a:Nat) (n:Int) (w:World) (ha:a < 4294967296):Calls Tryz.prog 170 #[.int .u32 (a:Int),.int .i64 n] w fun e w' => e = .returned (PV (a / sz n * sz n) (zCq n))∧Below w.heap.size w w' := by
 have hi:=i_and ha n
 go_enter Tryz.func170,Tryz.ntmps170
 go_wp2_with fail
 refine (zFy _ _).mono ?_
 rintro e w' ⟨rfl,rfl⟩
 go_wp2_with fail
 refine (clamp_any _ _).mono ?_
 rintro e w' ⟨rfl,rfl⟩
 go_wp2_with fail
 refine bodyPost_ret (v:=PV (a / sz n * sz n) (zCq n)) (by simp [results,Tryz.results170,go_sem,PV]) rfl ⟨rfl,?_⟩
 exact (Below.refl _ _).alloc (Nat.le_refl _) _
def zCk (m:Nat):Nat→Option Nat
 | 0 => none
 | k + 1 => if maskN ((33 - (k + 1):Nat):Int) = m then some (33 - (k + 1)) else zCk m k
theorem maskLen_step (m k:Nat) (h:k≤32):zCk m (33 - k) = if maskN (k:Int) = m then some k else zCk m (33 - (k + 1)):=by
 rw [show 33 - k = (32 - k) + 1 from by omega,zCk,show 33 - (32 - k + 1) = k from by omega,show 33 - (k + 1) = 32 - k from by omega]
set_option maxRecDepth 4000 in
theorem zJy (m:Nat) (w:World):Calls Tryz.prog 242 #[.int .u32 (m:Int)] w fun e w' => e = .returned (.tuple #[.int .i64 (((zCk m 33).getD 0:Nat):Int),.bool (zCk m 33).isSome])∧w = w' := by
 go_enter Tryz.func242,Tryz.ntmps242
 go_wp2_with fail
 go_loopg [4] 33 (fun g i wr => ∃ k:Nat,k + g = 33∧i = .int .i64 k∧wr = w∧Hid (zCk m 33 = zCk m (33 - k)))
 case atStart => exact ⟨0,by omega,rfl,rfl,hid rfl⟩
 case round =>
  obtain ⟨k,hk,rfl,ew,H⟩:=hrel
  subst ew
  by_cases hlt:k≤32
  ·have E:=hid (maskLen_step m k hlt)
   cases hm:((maskN (k:Int):Int) == (m:Int)) with
   | true =>
    have hf:zCk m 33 = some k:=by rw [H.out,E.out,if_pos (by simp at hm; omega)]
    have HF:=hid hf
    clear hf
    go_wp2_with (first | (go_at_call 187; refine (zFy _ _).mono ?_; rintro e w' ⟨rfl,rfl⟩))
    go_ret2
    exact ⟨by rw [HF.out]; rfl,rfl⟩
   | false =>
    go_wp2_with (first | (go_at_call 187; refine (zFy _ _).mono ?_; rintro e w' ⟨rfl,rfl⟩))
    go_roundg (33 - (k + 1))
    case measure => omega
    case rel => exact ⟨k + 1,by omega,by go_num,rfl,hid (by rw [H.out,E.out,if_neg (by simp at hm; omega)])⟩
  ·have hf:zCk m 33 = none:=by rw [H.out,show 33 - k = 0 from by omega]; rfl
   have HF:=hid hf
   clear hf
   go_wp2_with fail
   go_ret2
   exact ⟨by rw [HF.out]; rfl,rfl⟩
theorem Tryz.pfxGuard:Tryz.prog.eqGuardType Tryz.prog.depth 76 = false:=by kernel_rfl
theorem Tryz.pfxStood:Tryz.prog.stoodInHeld 76 = false:=by kernel_rfl
theorem zLz (p q:Nat) (n m:Int) (w:World):(binOp .eql 76 (.agg #[.int .u32 (p:Int),.int .i64 n]) (.agg #[.int .u32 (q:Int),.int .i64 m])).run Tryz.prog w = .ok (.bool (decide (p = q∧n = m))) w:=by
 have hp:=Tryz.pfxStood
 by_cases h1:p = q
 ·subst h1
  by_cases h2:n = m
  ·subst h2
   simp [go_sem,hp]
  ·have h3:(n == m) = false:=by simp [h2]
   simp [go_sem,hp,h2,h3]
 ·have h2:((p:Int) == (q:Int)) = false:=by simp; omega
  simp [go_sem,hp,h1,h2]
end Go.Proofs.YtdlgnhefpoalnaaGreatDoor
