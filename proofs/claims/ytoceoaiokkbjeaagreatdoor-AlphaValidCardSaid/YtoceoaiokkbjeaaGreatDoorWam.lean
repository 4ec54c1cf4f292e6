/- The error of a router does not depend on where its slices lie. No condition. -/
import Derived.Test.YtoceoaiokkbjeaaGreatDoorWae
import Derived.Test.YtoceoaiokkbjeaaGreatDoorWal
namespace Go.Proofs.YtoceoaiokkbjeaaGreatDoor
open Lib (hid)
open Go.RowKit
theorem zJj {α β : Type} (f : α → β) (p : β → Bool) : ∀ (l : List α) (i : Nat), idxF p (l.map f) i = idxF (fun x => p (f x)) l i
 | [], _ => rfl
 | x :: r, i => by
  rw [List.map_cons]
  unfold idxF
  rw [zJj f p r]
theorem firstE_map {α β : Type} (f : α → β) (g : β → Int) : ∀ l : List α, zAp g (l.map f) = zAp (fun x => g (f x)) l
 | [] => rfl
 | x :: r => by
  rw [List.map_cons]
  unfold zAp
  rw [firstE_map f g r]
theorem lsGo_map {α β : Type} (f : α → β) (name : β → List UInt8) (len : β → Nat) (inner : β → Int) (most : Int) (all : List α) : ∀ (l : List α) (k : Nat), lsGo name len inner most (all.map f) (l.map f) k = lsGo (fun x => name (f x)) (fun x => len (f x)) (fun x => inner (f x)) most all l k
 | [], _ => rfl
 | x :: r, k => by
  rw [List.map_cons]
  unfold lsGo
  rw [lsGo_map f name len inner most all r, zJj]
theorem lsE_map {α β : Type} (f : α → β) (name : β → List UInt8) (len : β → Nat) (inner : β → Int) (most : Int) (l : List α) : lsE name len inner most (l.map f) = lsE (fun x => name (f x)) (fun x => len (f x)) (fun x => inner (f x)) most l := by
 unfold lsE
 rw [lsGo_map]
 simp only [List.length_map]
def erP (x : PList) : PList := ⟨x.name, .slice none 0 0, x.rules⟩
def erM (x : RMap) : RMap := ⟨x.name, .slice none 0 0, x.clauses⟩
def erA (x : AList) : AList := ⟨x.name, .slice none 0 0, x.rules⟩
theorem idxP (n : List UInt8) (l : List PList) : idxF (fun y => y.name == n) (l.map erP) 0 = idxF (fun y => y.name == n) l 0 := by rw [zJj]; rfl
theorem idxM (n : List UInt8) (l : List RMap) : idxF (fun y => y.name == n) (l.map erM) 0 = idxF (fun y => y.name == n) l 0 := by rw [zJj]; rfl
theorem idxA (n : List UInt8) (l : List AList) : idxF (fun y => y.name == n) (l.map erA) 0 = idxF (fun y => y.name == n) l 0 := by rw [zJj]; rfl
theorem clE_er (l : List PList) : clE (l.map erP) = clE l := by funext c; unfold clE; rw [idxP]
theorem routerE_plain (r : Rt) : zDv r.plain = zDv r := by
 have hP : r.plain.lists = r.lists.map erP := rfl
 have hM : r.plain.maps = r.maps.map erM := rfl
 have hA : r.plain.acls = r.acls.map erA := rfl
 have e1 : plsE r.plain.lists = plsE r.lists := by rw [hP]; unfold plsE; rw [lsE_map]; rfl
 have e2 : mapsE r.plain.lists r.plain.maps = mapsE r.lists r.maps := by rw [hP, hM]; unfold mapsE; rw [lsE_map, clE_er]; rfl
 have e3 : aclsE r.plain.acls = aclsE r.acls := by rw [hA]; unfold aclsE; rw [lsE_map]; rfl
 have n1 : natE (r.acls.map erA) = natE r.acls := by funext x; unfold natE; rw [idxA]
 have e4 : natsE r.plain.acls r.plain.nat = natsE r.acls r.nat := by rw [hA]; unfold natsE; rw [n1]; rfl
 have n2 : filtE (r.acls.map erA) = filtE r.acls := by funext x; unfold filtE zBd; rw [idxA, idxA]
 have e5 : zAp (filtE r.plain.acls) r.plain.ifs = zAp (filtE r.acls) r.ifs := by rw [hA, n2]; rfl
 have n3 : ∀ i m q t, redE (r.maps.map erM) i m q t = redE r.maps i m q t := fun i m q t => by
  funext l
  unfold redE
  congr 1
  funext x
  unfold redF zBd
  rw [idxM]
 have e6 : lnkE r.plain = lnkE r := by unfold lnkE; rw [hM, n3]; rfl
 have n4 : dnF r.plain = dnF r := by unfold dnF zBd; rw [hP, idxP, idxP]; rfl
 have e7 : dvE r.plain = dvE r := by unfold dvE; rw [hM, n3, n4]; rfl
 have n5 : nbsE (r.maps.map erM) r.plain.nb = nbsE r.maps r.nb := by
  unfold nbsE
  have n6 : nbF (r.maps.map erM) = nbF r.maps := by funext x; unfold nbF zBd; rw [idxM, idxM]
  rw [n6]
  rfl
 have e8 : pvE r.plain = pvE r := by unfold pvE; rw [hM, n3, n5]; rfl
 unfold zDv secsE
 rw [e1, e2, e3, e4, e5, e6, e7, e8]
 rfl
theorem firstE_zero {β : Type} {f : β → Int} : ∀ {l : List β}, zAp f l = 0 ↔ ∀ y ∈ l, f y = 0
 | [] => ⟨fun _ _ h => (by cases h), fun _ => rfl⟩
 | y :: r => by
  unfold zAp
  by_cases h : f y = 0
  ·rw [if_pos h, firstE_zero (l := r)]
   exact ⟨fun h2 z hz => (List.mem_cons.1 hz).elim (fun e => e ▸ h) (h2 z), fun h2 z hz => h2 z (List.mem_cons_of_mem _ hz)⟩
  ·rw [if_neg h]
   exact ⟨fun h2 => absurd h2 h, fun h2 => absurd (h2 y (by simp)) h⟩
theorem routerE_zero {r : Rt} : zDv r = 0 ↔ nameB r.name = true ∧ zAg r.asn 0 65535 = true ∧ ∀ y ∈ secsE r, y = 0 := by
 unfold zDv
 cases h1 : nameB r.name with
 | false => exact ⟨fun h => absurd (show (3 : Int) = 0 from h) (by decide), fun h => absurd h.1 (by decide)⟩
 | true =>
  cases h2 : zAg r.asn 0 65535 with
  | false => exact ⟨fun h => absurd (show (1 : Int) = 0 from h) (by decide), fun h => absurd h.2.1 (by decide)⟩
  | true =>
   show zAp (fun e => e) (secsE r) = 0 ↔ _
   rw [firstE_zero]
   exact ⟨fun h => ⟨rfl, rfl, h⟩, fun h => h.2.2⟩
end Go.Proofs.YtoceoaiokkbjeaaGreatDoor
