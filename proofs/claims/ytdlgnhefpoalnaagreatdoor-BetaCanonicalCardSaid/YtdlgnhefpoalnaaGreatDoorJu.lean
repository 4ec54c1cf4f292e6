/- Beta's forms as closures: which pointer a form holds; the last element of a slice of the reader as a struct that a form turns; what a form answers. No condition. -/
import Derived.Test.YtdlgnhefpoalnaaGreatDoorJt
namespace Go.Proofs.YtdlgnhefpoalnaaGreatDoor
open Lib (hid)
open Go.RowKit
theorem zDc {α:Type} (f:α→α) (x:α):∀ l:List α,lastF f (l ++ [x]) = l ++ [f x]
 | [] => rfl
 | [y] => rfl
 | y :: z :: r => by
  have ih:=zDc f x (z :: r)
  show lastF f (y :: (z :: r ++ [x])) = y :: (z :: r ++ [f x])
  rw [← ih]
  rfl
theorem setAtL_snoc {α:Type} (l:List α) (x y:α):zMj (l ++ [x]) l.length y = l ++ [y]:=by
 unfold zMj; simp
def ElV {α:Type} (F:Nat) (U:TypeId) (n:Nat) (v:Value) (l:List α) (K:Kept) (fv:Value):Prop :=
 ∃ gg cap l0 x k,l = l0 ++ [x]∧v = .slice (some ⟨gg,0,none⟩) (l0.length + 1) cap∧fv = .func (.func F) #[] #[.pointer (some ⟨k,0,none⟩)]∧(k,.cells #[.pointer (some ⟨gg,l0.length * n,none⟩)] U (0,0)) ∈ K
def PtV (F:Nat) (U:TypeId) (q:Addr) (K:Kept) (fv:Value):Prop:=∃ k,fv = .func (.func F) #[] #[.pointer (some ⟨k,0,none⟩)]∧(k,.cells #[.pointer (some q)] U (0,0)) ∈ K
def RdV (typed:Bool) (v:Value) (l:List Rd) (K:Kept) (fv:Value):Prop :=
 ∃ gg cap l0 x k k2,l = l0 ++ [x]∧v = .slice (some ⟨gg,0,none⟩) (l0.length + 1) cap∧fv = .func (.func 273) #[] #[.pointer (some ⟨k,0,none⟩),.pointer (some ⟨k2,0,none⟩)] ∧
  (k,.cells #[.pointer (some ⟨gg,l0.length * 5,none⟩)] 301 (0,0)) ∈ K∧(k2,.cells #[.bool typed] 4 (0,0)) ∈ K
def FmV (f:Fm) (g:Nat) (r:Rt) (K:Kept) (fv:Value):Prop:=match f with
 | .top => fv = .func (.func 68) #[.pointer (some ⟨g,0,none⟩)] #[]
 | .system => fv = .func (.func 137) #[.pointer (some ⟨g,0,none⟩)] #[]
 | .interfaces => fv = .func (.func 138) #[.pointer (some ⟨g,0,none⟩)] #[]
 | .translations => fv = .func (.func 146) #[.pointer (some ⟨g,0,none⟩)] #[]
 | .statics => fv = .func (.func 147) #[.pointer (some ⟨g,0,none⟩)] #[]
 | .iface => ElV 246 211 12 r.ifsV r.ifs K fv
 | .prefixRules => ElV 202 189 2 r.listsV r.lists K fv
 | .clauses => ElV 206 193 2 r.mapsV r.maps K fv
 | .rules => ElV 209 197 2 r.aclsV r.acls K fv
 | .clause => ∃ m0 m,r.maps = m0 ++ [m]∧ElV 249 216 7 m.v m.clauses K fv
 | .rule => ∃ m0 m,r.acls = m0 ++ [m]∧ElV 250 218 10 m.v m.rules K fv
 | .static => ElV 255 227 7 r.statV r.stat K fv
 | .neighbor => ElV 259 272 4 r.nbV r.nb K fv
 | .linkState => PtV 215 202 ⟨g,8,none⟩ K fv
 | .distance => PtV 217 204 ⟨g,12,none⟩ K fv
 | .path => PtV 218 206 ⟨g,17,none⟩ K fv
 | .redLS => RdV true r.lsRedV r.lsRed K fv
 | .redDV => RdV false r.dvRedV r.dvRed K fv
 | .redPV => RdV false r.pvRedV r.pvRed K fv
def Stay (r r' : Rt):Prop:=r'.listsV = r.listsV∧r'.lists.length = r.lists.length∧r'.mapsV = r.mapsV∧r'.maps.length = r.maps.length∧r'.aclsV = r.aclsV∧r'.acls.length = r.acls.length
theorem Stay.refl (r:Rt):Stay r r:=⟨rfl,rfl,rfl,rfl,rfl,rfl⟩
theorem Stay.trans {r r' r'' : Rt} (h:Stay r r') (h' : Stay r' r''):Stay r r'' :=
 ⟨h'.1.trans h.1,h'.2.1.trans h.2.1,h'.2.2.1.trans h.2.2.1,h'.2.2.2.1.trans h.2.2.2.1,h'.2.2.2.2.1.trans h.2.2.2.2.1,h'.2.2.2.2.2.trans h.2.2.2.2.2⟩
theorem snoc_of {α:Type} {l l' : List α} (h:l'.length = l.length) {l0:List α} {x:α} (e:l = l0 ++ [x]):∃ l1 y,l' = l1 ++ [y]∧l1.length = l0.length:=by
 subst e
 rcases List.eq_nil_or_concat l' with rfl | ⟨l1,y,rfl⟩
 ·simp at h
 ·exact ⟨l1,y,by simp,by simpa using h⟩
theorem ElV.stay {α:Type} {F n:Nat} {U:TypeId} {v v' : Value} {l l' : List α} {K K' : Kept} {fv:Value} (h:ElV F U n v l K fv) (hv:v' = v) (hl:l'.length = l.length) (hK:∀ k ∈ K,k ∈ K'):ElV F U n v' l' K' fv:=by
 obtain ⟨gg,cap,l0,x,k,e1,e2,e3,e4⟩:=h
 obtain ⟨l1,y,e5,e6⟩:=snoc_of hl e1
 exact ⟨gg,cap,l1,y,k,e5,by rw [hv,e6]; exact e2,e3,by rw [e6]; exact hK _ e4⟩
def Fm.outer:Fm→Bool
 | .top | .interfaces | .clauses | .rules | .statics | .linkState | .distance | .path => true
 | _ => false
theorem FmV.stay {f:Fm} {g:Nat} {r r' : Rt} {K K' : Kept} {fv:Value} (h:FmV f g r K fv) (ho:f.outer = true) (hs:Stay r r') (hK:∀ k ∈ K,k ∈ K'):FmV f g r' K' fv:=by
 cases f <;> first | cases ho; done | skip
 ·exact h
 ·exact h
 ·exact ElV.stay h hs.2.2.1 hs.2.2.2.1 hK
 ·exact ElV.stay h hs.2.2.2.2.1 hs.2.2.2.2.2 hK
 ·exact h
 all_goals
  obtain ⟨k,e1,e2⟩:=h
  exact ⟨k,e1,hK _ e2⟩
def InnV (f:Fm) (inner:Option Fm) (iv:Value) (g:Nat) (r:Rt) (K:Kept):Prop:=match inner with
 | none => iv = .nilFunc
 | some h => h≠.top∧f.outer = true∧FmV h g r K iv
def FormP (f:Fm) (fv:Value) (g B:Nat) (w0:World) (r:Rt) (K:Kept) (T:TypeId × Bool) (b:Nat) (p:Ps) (_:World) (e:Ending) (w' : World):Prop :=
 ∃ key inner r' p' K' iv,fmS f T.2 r.plain p = (key,inner,r'.plain,p')∧e = .returned (.tuple #[strV key,iv])∧BW g B w0 r' (K' ++ K) T b p' w' ∧ (f≠.top→Stay r r')∧(∀ K0,FmV f g r K0 fv→FmV f g r' K0 fv)∧InnV f inner iv g r' K' ∧ ∀ k ∈ K', ∃ cs E,k.2 = .cells cs E (0,0)
theorem ElV.mono {α:Type} {F n:Nat} {U:TypeId} {v:Value} {l:List α} {K K' : Kept} {fv:Value} (h:ElV F U n v l K fv) (hK:∀ k ∈ K,k ∈ K'):ElV F U n v l K' fv:=h.stay rfl rfl hK
theorem FmV.mono {f:Fm} {g:Nat} {r:Rt} {K K' : Kept} {fv:Value} (h:FmV f g r K fv) (hK:∀ k ∈ K,k ∈ K'):FmV f g r K' fv:=by
 cases f
 all_goals first
  | exact h
  | exact ElV.mono h hK
  | (obtain ⟨k,e1,e2⟩:=h; exact ⟨k,e1,hK _ e2⟩)
  | (obtain ⟨m0,m,e,h⟩:=h; exact ⟨m0,m,e,ElV.mono h hK⟩)
  | (obtain ⟨gg,cap,l0,x,k,k2,e1,e2,e3,e4,e5⟩:=h; exact ⟨gg,cap,l0,x,k,k2,e1,e2,e3,hK _ e4,hK _ e5⟩)
abbrev EG (F:Nat):Prop:=∀ args w,(callFunc F args).run Tryz.prog w = .ok (.enter F args) w
section
variable {α : Type} {E : TypeId} {n gg cap g B b : Nat} {C : α → Array Value} {v : Value} {l0 : List α} {x : α} {K K0 : Kept} {w0 w : World} {r : Rt} {T : TypeId × Bool} {p : Ps} {pre post : List Orow}
theorem BW.last (h:BW g B w0 r K T b p w) (e:btR r = pre ++ rowE E n C v (l0 ++ [x]) :: post) (hv:v = .slice (some ⟨gg,0,none⟩) (l0.length + 1) cap) (hn:0 < n) (hl:∀ x,(C x).toList.length = n) (hK:∀ k ∈ K0,k ∈ K) :
  ∃ cur,Ck E gg (l0.length * n) cur T b B K0 w (C x) p w∧∀ (y:α) (p' : Ps) (w' : World) (r' : Rt),Ck E gg (l0.length * n) cur T b B K0 w (C y) p' w' → r'.C = r.C→btR r' = pre ++ rowE E n C v (l0 ++ [y]) :: post→BW g B w0 r' K T b p' w' := by
 have ho:OwnE w B E n C v (l0 ++ [x]):=h.own.1 (rowE E n C v (l0 ++ [x])) (by rw [e]; simp)
 obtain ⟨g', cap', cur,e1,hgB,hp,hs⟩:=ho.part hn hl (k:=l0.length) (by simp)
 rw [hv] at e1
 injection e1 with e1 _ e3
 injection e1 with e1
 injection e1 with e1 _ _
 subst e1
 have hx:(l0 ++ [x])[l0.length]'(by simp) = x:=by simp
 rw [hx] at hp
 have hgg:gg ∈ blks (btR r):=by
  rw [e]
  exact List.mem_filterMap.2 ⟨rowE E n C v (l0 ++ [x]),by simp,by rw [hv]; rfl⟩
 have hgne:gg≠g:=fun e1 => h.gr (e1 ▸ hgg)
 have hbne:gg≠b:=fun e1 => h.br (e1 ▸ hgg)
 refine ⟨cur,⟨hp,h.st,Fr.refl _ _,hbne,hgB,Nat.le_trans h.bB h.size,fun k hk => ⟨(h.keep k (hK k hk)).1,fun e1 => (h.keep k (hK k hk)).2.2 (e1 ▸ hgg),h.kb k (hK k hk)⟩⟩,?_⟩
 intro y p' w' r' hc eC eR
 have hset:=hs w' y hc.part.1
 rw [setAtL_snoc] at hset
 have hbv:v.ownBlock = some gg:=by rw [hv]; rfl
 refine h.turn (X:=[rowE E n C v (l0 ++ [x])]) (X' := [rowE E n C v (l0 ++ [y])]) (post:=pre ++ post) (by rw [e]; exact List.perm_middle) (by rw [eR]; exact List.perm_middle) (hc.fr.mono (fun k hk => ?_)) ?_ hc.st ⟨fun o ho' => ?_,?_⟩ (fun k hk => .inl hk)
 ·simp only [List.mem_cons,List.not_mem_nil,or_false] at hk
  rcases hk with rfl | rfl
  ·exact List.mem_cons_of_mem _ (List.mem_cons_of_mem _ (List.mem_filterMap.2 ⟨rowE E n C v (l0 ++ [x]),by simp,hbv⟩))
  ·simp
 ·rw [eC]
  refine HasC.fr h.has hc.fr (fun hm => ?_)
  simp only [List.mem_cons,List.not_mem_nil,or_false] at hm
  exact hm.elim (fun e1 => hgne e1.symm) (fun e1 => h.gb e1)
 ·obtain rfl:=List.mem_singleton.1 ho'
  exact hset
 ·rw [List.filterMap_cons]; split <;> simp
end
end Go.Proofs.YtdlgnhefpoalnaaGreatDoor
