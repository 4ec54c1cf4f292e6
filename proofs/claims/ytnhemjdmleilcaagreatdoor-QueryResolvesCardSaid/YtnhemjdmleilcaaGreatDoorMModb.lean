/- A router as data: its parts, their cells, what of it lies in memory. No condition. -/
import Derived.Test.YtnhemjdmleilcaaGreatDoorRow
import Derived.Test.YtnhemjdmleilcaaGreatDoorSlices
import Derived.Test.YtnhemjdmleilcaaGreatDoorAddrA
import Derived.Test.YtnhemjdmleilcaaGreatDoorShelf
import Derived.Deep.LoopGhost
import Derived.Test.YtnhemjdmleilcaaGreatDoorMScan
import Derived.Test.YtnhemjdmleilcaaGreatDoorQryL

namespace Go.Proofs.YtnhemjdmleilcaaGreatDoor
open Go.RowKit

structure If where
  name : List UInt8
  addr : Nat
  len : Int
  vlan : Int
  down : Bool
  ls : Bool
  area : Int
  cost : Int
  dv : Bool
  inn : List UInt8
  out : List UInt8
  side : Int
deriving Inhabited
def If.C (x : If) : Array Value := #[strV x.name, .int .u32 (x.addr : Int), .int .i64 x.len, .int .i64 x.vlan, .bool x.down, .bool x.ls, .int .i64 x.area, .int .i64 x.cost, .bool x.dv, strV x.inn, strV x.out, .int .i64 x.side]
def If.fit (x : If) : Prop := x.addr < 4294967296
theorem Tryz.rowIf : (Tryz.prog.underlying 99).map TypeDesc.isRow = some true := by kernel_rfl
theorem Tryz.sizeIf : (Tryz.prog.info? 99).map (·.size) = some 12 := by kernel_rfl
theorem If.one (x : If) : x.C.all (·.oneCell') = true := by
  rw [Array.all_eq_true_iff_forall_mem]
  intro v hv
  simp only [If.C, List.mem_toArray, List.mem_cons, List.not_mem_nil, or_false] at hv
  rcases hv with rfl | rfl | rfl | rfl | rfl | rfl | rfl | rfl | rfl | rfl | rfl | rfl <;> first | rfl
structure PRule where
  permit : Bool
  pa : Nat
  pl : Int
  min : Int
  max : Int
deriving Inhabited
def PRule.C (x : PRule) : Array Value := #[.bool x.permit, .int .u32 (x.pa : Int), .int .i64 x.pl, .int .i64 x.min, .int .i64 x.max]
def PRule.fit (x : PRule) : Prop := x.pa < 4294967296
theorem Tryz.rowPRule : (Tryz.prog.underlying 123).map TypeDesc.isRow = some true := by kernel_rfl
theorem Tryz.sizePRule : (Tryz.prog.info? 123).map (·.size) = some 5 := by kernel_rfl
theorem PRule.one (x : PRule) : x.C.all (·.oneCell') = true := by
  rw [Array.all_eq_true_iff_forall_mem]
  intro v hv
  simp only [PRule.C, List.mem_toArray, List.mem_cons, List.not_mem_nil, or_false] at hv
  rcases hv with rfl | rfl | rfl | rfl | rfl <;> first | rfl
structure PList where
  name : List UInt8
  v : Value
  rules : List PRule
deriving Inhabited
def PList.C (x : PList) : Array Value := #[strV x.name, x.v]
def PList.fit (x : PList) : Prop := ∀ y ∈ x.rules, y.fit
theorem Tryz.rowPList : (Tryz.prog.underlying 120).map TypeDesc.isRow = some true := by kernel_rfl
theorem Tryz.sizePList : (Tryz.prog.info? 120).map (·.size) = some 2 := by kernel_rfl
theorem PList.one (x : PList) (h0 : x.v.oneCell' = true) : x.C.all (·.oneCell') = true := by
  rw [Array.all_eq_true_iff_forall_mem]
  intro v hv
  simp only [PList.C, List.mem_toArray, List.mem_cons, List.not_mem_nil, or_false] at hv
  rcases hv with rfl | rfl <;> first | rfl | exact h0
/-- What lies in memory. -/
def PList.at (w : World) (B : Nat) (x : PList) : Prop := SlV w B 5 PRule.C x.v x.rules
structure Cl where
  permit : Bool
  list : List UInt8
  tag : Int
  setM : Int
  setT : Int
  setP : Int
  prep : Int
deriving Inhabited
def Cl.C (x : Cl) : Array Value := #[.bool x.permit, strV x.list, .int .i64 x.tag, .int .i64 x.setM, .int .i64 x.setT, .int .i64 x.setP, .int .i64 x.prep]
def Cl.fit (_ : Cl) : Prop := True
theorem Tryz.rowCl : (Tryz.prog.underlying 128).map TypeDesc.isRow = some true := by kernel_rfl
theorem Tryz.sizeCl : (Tryz.prog.info? 128).map (·.size) = some 7 := by kernel_rfl
theorem Cl.one (x : Cl) : x.C.all (·.oneCell') = true := by
  rw [Array.all_eq_true_iff_forall_mem]
  intro v hv
  simp only [Cl.C, List.mem_toArray, List.mem_cons, List.not_mem_nil, or_false] at hv
  rcases hv with rfl | rfl | rfl | rfl | rfl | rfl | rfl <;> first | rfl
structure RMap where
  name : List UInt8
  v : Value
  clauses : List Cl
deriving Inhabited
def RMap.C (x : RMap) : Array Value := #[strV x.name, x.v]
def RMap.fit (_ : RMap) : Prop := True
theorem Tryz.rowRMap : (Tryz.prog.underlying 126).map TypeDesc.isRow = some true := by kernel_rfl
theorem Tryz.sizeRMap : (Tryz.prog.info? 126).map (·.size) = some 2 := by kernel_rfl
theorem RMap.one (x : RMap) (h0 : x.v.oneCell' = true) : x.C.all (·.oneCell') = true := by
  rw [Array.all_eq_true_iff_forall_mem]
  intro v hv
  simp only [RMap.C, List.mem_toArray, List.mem_cons, List.not_mem_nil, or_false] at hv
  rcases hv with rfl | rfl <;> first | rfl | exact h0
/-- What lies in memory. -/
def RMap.at (w : World) (B : Nat) (x : RMap) : Prop := SlV w B 7 Cl.C x.v x.clauses
structure Ru where
  permit : Bool
  proto : Int
  sa : Nat
  sm : Nat
  da : Nat
  dm : Nat
  slo : Int
  shi : Int
  dlo : Int
  dhi : Int
deriving Inhabited
def Ru.C (x : Ru) : Array Value := #[.bool x.permit, .int .i64 x.proto, .int .u32 (x.sa : Int), .int .u32 (x.sm : Int), .int .u32 (x.da : Int), .int .u32 (x.dm : Int), .int .i64 x.slo, .int .i64 x.shi, .int .i64 x.dlo, .int .i64 x.dhi]
def Ru.fit (x : Ru) : Prop := x.sa < 4294967296 ∧ x.sm < 4294967296 ∧ x.da < 4294967296 ∧ x.dm < 4294967296
theorem Tryz.rowRu : (Tryz.prog.underlying 136).map TypeDesc.isRow = some true := by kernel_rfl
theorem Tryz.sizeRu : (Tryz.prog.info? 136).map (·.size) = some 10 := by kernel_rfl
theorem Ru.one (x : Ru) : x.C.all (·.oneCell') = true := by
  rw [Array.all_eq_true_iff_forall_mem]
  intro v hv
  simp only [Ru.C, List.mem_toArray, List.mem_cons, List.not_mem_nil, or_false] at hv
  rcases hv with rfl | rfl | rfl | rfl | rfl | rfl | rfl | rfl | rfl | rfl <;> first | rfl
structure AList where
  name : List UInt8
  v : Value
  rules : List Ru
deriving Inhabited
def AList.C (x : AList) : Array Value := #[strV x.name, x.v]
def AList.fit (x : AList) : Prop := ∀ y ∈ x.rules, y.fit
theorem Tryz.rowAList : (Tryz.prog.underlying 132).map TypeDesc.isRow = some true := by kernel_rfl
theorem Tryz.sizeAList : (Tryz.prog.info? 132).map (·.size) = some 2 := by kernel_rfl
theorem AList.one (x : AList) (h0 : x.v.oneCell' = true) : x.C.all (·.oneCell') = true := by
  rw [Array.all_eq_true_iff_forall_mem]
  intro v hv
  simp only [AList.C, List.mem_toArray, List.mem_cons, List.not_mem_nil, or_false] at hv
  rcases hv with rfl | rfl <;> first | rfl | exact h0
/-- What lies in memory. -/
def AList.at (w : World) (B : Nat) (x : AList) : Prop := SlV w B 10 Ru.C x.v x.rules
structure Tr where
  kind : Int
  ins : Nat
  outs : Nat
  proto : Int
  iport : Int
  oport : Int
  list : List UInt8
  lo : Nat
  hi : Nat
deriving Inhabited
def Tr.C (x : Tr) : Array Value := #[.int .i64 x.kind, .int .u32 (x.ins : Int), .int .u32 (x.outs : Int), .int .i64 x.proto, .int .i64 x.iport, .int .i64 x.oport, strV x.list, .int .u32 (x.lo : Int), .int .u32 (x.hi : Int)]
def Tr.fit (x : Tr) : Prop := x.ins < 4294967296 ∧ x.outs < 4294967296 ∧ x.lo < 4294967296 ∧ x.hi < 4294967296
theorem Tryz.rowTr : (Tryz.prog.underlying 139).map TypeDesc.isRow = some true := by kernel_rfl
theorem Tryz.sizeTr : (Tryz.prog.info? 139).map (·.size) = some 9 := by kernel_rfl
theorem Tr.one (x : Tr) : x.C.all (·.oneCell') = true := by
  rw [Array.all_eq_true_iff_forall_mem]
  intro v hv
  simp only [Tr.C, List.mem_toArray, List.mem_cons, List.not_mem_nil, or_false] at hv
  rcases hv with rfl | rfl | rfl | rfl | rfl | rfl | rfl | rfl | rfl <;> first | rfl
structure Sr where
  pa : Nat
  pl : Int
  next : Nat
  iface : List UInt8
  discard : Bool
  admin : Int
  tag : Int
deriving Inhabited
def Sr.C (x : Sr) : Array Value := #[.int .u32 (x.pa : Int), .int .i64 x.pl, .int .u32 (x.next : Int), strV x.iface, .bool x.discard, .int .i64 x.admin, .int .i64 x.tag]
def Sr.fit (x : Sr) : Prop := x.pa < 4294967296 ∧ x.next < 4294967296
theorem Tryz.rowSr : (Tryz.prog.underlying 142).map TypeDesc.isRow = some true := by kernel_rfl
theorem Tryz.sizeSr : (Tryz.prog.info? 142).map (·.size) = some 7 := by kernel_rfl
theorem Sr.one (x : Sr) : x.C.all (·.oneCell') = true := by
  rw [Array.all_eq_true_iff_forall_mem]
  intro v hv
  simp only [Sr.C, List.mem_toArray, List.mem_cons, List.not_mem_nil, or_false] at hv
  rcases hv with rfl | rfl | rfl | rfl | rfl | rfl | rfl <;> first | rfl
structure Rd where
  frm : Int
  metric : Int
  tag : Int
  map : List UInt8
  typ : Int
deriving Inhabited
def Rd.C (x : Rd) : Array Value := #[.int .i64 x.frm, .int .i64 x.metric, .int .i64 x.tag, strV x.map, .int .i64 x.typ]
def Rd.fit (_ : Rd) : Prop := True
theorem Tryz.rowRd : (Tryz.prog.underlying 167).map TypeDesc.isRow = some true := by kernel_rfl
theorem Tryz.sizeRd : (Tryz.prog.info? 167).map (·.size) = some 5 := by kernel_rfl
theorem Rd.one (x : Rd) : x.C.all (·.oneCell') = true := by
  rw [Array.all_eq_true_iff_forall_mem]
  intro v hv
  simp only [Rd.C, List.mem_toArray, List.mem_cons, List.not_mem_nil, or_false] at hv
  rcases hv with rfl | rfl | rfl | rfl | rfl <;> first | rfl
structure AR where
  area : Int
  pa : Nat
  pl : Int
deriving Inhabited
def AR.C (x : AR) : Array Value := #[.int .i64 x.area, .int .u32 (x.pa : Int), .int .i64 x.pl]
def AR.fit (x : AR) : Prop := x.pa < 4294967296
theorem Tryz.rowAR : (Tryz.prog.underlying 145).map TypeDesc.isRow = some true := by kernel_rfl
theorem Tryz.sizeAR : (Tryz.prog.info? 145).map (·.size) = some 3 := by kernel_rfl
theorem AR.one (x : AR) : x.C.all (·.oneCell') = true := by
  rw [Array.all_eq_true_iff_forall_mem]
  intro v hv
  simp only [AR.C, List.mem_toArray, List.mem_cons, List.not_mem_nil, or_false] at hv
  rcases hv with rfl | rfl | rfl <;> first | rfl
structure Nb where
  addr : Nat
  asn : Int
  inn : List UInt8
  out : List UInt8
deriving Inhabited
def Nb.C (x : Nb) : Array Value := #[.int .u32 (x.addr : Int), .int .i64 x.asn, strV x.inn, strV x.out]
def Nb.fit (x : Nb) : Prop := x.addr < 4294967296
theorem Tryz.rowNb : (Tryz.prog.underlying 169).map TypeDesc.isRow = some true := by kernel_rfl
theorem Tryz.sizeNb : (Tryz.prog.info? 169).map (·.size) = some 4 := by kernel_rfl
theorem Nb.one (x : Nb) : x.C.all (·.oneCell') = true := by
  rw [Array.all_eq_true_iff_forall_mem]
  intro v hv
  simp only [Nb.C, List.mem_toArray, List.mem_cons, List.not_mem_nil, or_false] at hv
  rcases hv with rfl | rfl | rfl | rfl <;> first | rfl
structure Pf where
  pa : Nat
  pl : Int
deriving Inhabited
def Pf.C (x : Pf) : Array Value := #[.int .u32 (x.pa : Int), .int .i64 x.pl]
def Pf.fit (x : Pf) : Prop := x.pa < 4294967296
theorem Tryz.rowPf : (Tryz.prog.underlying 27).map TypeDesc.isRow = some true := by kernel_rfl
theorem Tryz.sizePf : (Tryz.prog.info? 27).map (·.size) = some 2 := by kernel_rfl
theorem Pf.one (x : Pf) : x.C.all (·.oneCell') = true := by
  rw [Array.all_eq_true_iff_forall_mem]
  intro v hv
  simp only [Pf.C, List.mem_toArray, List.mem_cons, List.not_mem_nil, or_false] at hv
  rcases hv with rfl | rfl <;> first | rfl
structure Ag where
  pa : Nat
  pl : Int
  only : Bool
deriving Inhabited
def Ag.C (x : Ag) : Array Value := #[.int .u32 (x.pa : Int), .int .i64 x.pl, .bool x.only]
def Ag.fit (x : Ag) : Prop := x.pa < 4294967296
theorem Tryz.rowAg : (Tryz.prog.underlying 172).map TypeDesc.isRow = some true := by kernel_rfl
theorem Tryz.sizeAg : (Tryz.prog.info? 172).map (·.size) = some 3 := by kernel_rfl
theorem Ag.one (x : Ag) : x.C.all (·.oneCell') = true := by
  rw [Array.all_eq_true_iff_forall_mem]
  intro v hv
  simp only [Ag.C, List.mem_toArray, List.mem_cons, List.not_mem_nil, or_false] at hv
  rcases hv with rfl | rfl | rfl <;> first | rfl
structure Cd where
  pa : Nat
  pl : Int
  ia : Nat
  il : Int
  absent : Bool
deriving Inhabited
def Cd.C (x : Cd) : Array Value := #[.int .u32 (x.pa : Int), .int .i64 x.pl, .int .u32 (x.ia : Int), .int .i64 x.il, .bool x.absent]
def Cd.fit (x : Cd) : Prop := x.pa < 4294967296 ∧ x.ia < 4294967296
theorem Tryz.rowCd : (Tryz.prog.underlying 174).map TypeDesc.isRow = some true := by kernel_rfl
theorem Tryz.sizeCd : (Tryz.prog.info? 174).map (·.size) = some 5 := by kernel_rfl
theorem Cd.one (x : Cd) : x.C.all (·.oneCell') = true := by
  rw [Array.all_eq_true_iff_forall_mem]
  intro v hv
  simp only [Cd.C, List.mem_toArray, List.mem_cons, List.not_mem_nil, or_false] at hv
  rcases hv with rfl | rfl | rfl | rfl | rfl <;> first | rfl
structure Rt where
  name : List UInt8
  asn : Int
  ifsV : Value
  listsV : Value
  mapsV : Value
  aclsV : Value
  natV : Value
  statV : Value
  lsOn : Bool
  lsAdmin : Int
  rangesV : Value
  lsRedV : Value
  dvOn : Bool
  dvAdmin : Int
  dvIn : List UInt8
  dvOut : List UInt8
  dvRedV : Value
  pvOn : Bool
  ext : Int
  int : Int
  nbV : Value
  netV : Value
  agV : Value
  cdV : Value
  pvRedV : Value
  ifs : List If
  lists : List PList
  maps : List RMap
  acls : List AList
  nat : List Tr
  stat : List Sr
  ranges : List AR
  lsRed : List Rd
  dvRed : List Rd
  nb : List Nb
  net : List Pf
  ag : List Ag
  cd : List Cd
  pvRed : List Rd
deriving Inhabited
def Rt.C (x : Rt) : Array Value := #[strV x.name, .int .i64 x.asn, x.ifsV, x.listsV, x.mapsV, x.aclsV, x.natV, x.statV, .bool x.lsOn, .int .i64 x.lsAdmin, x.rangesV, x.lsRedV, .bool x.dvOn, .int .i64 x.dvAdmin, strV x.dvIn, strV x.dvOut, x.dvRedV, .bool x.pvOn, .int .i64 x.ext, .int .i64 x.int, x.nbV, x.netV, x.agV, x.cdV, x.pvRedV]
theorem Tryz.rowRt : (Tryz.prog.underlying 69).map TypeDesc.isRow = some true := by kernel_rfl
theorem Tryz.sizeRt : (Tryz.prog.info? 69).map (·.size) = some 25 := by kernel_rfl
theorem Rt.one (x : Rt) (h0 : x.ifsV.oneCell' = true) (h1 : x.listsV.oneCell' = true) (h2 : x.mapsV.oneCell' = true) (h3 : x.aclsV.oneCell' = true) (h4 : x.natV.oneCell' = true) (h5 : x.statV.oneCell' = true) (h6 : x.rangesV.oneCell' = true) (h7 : x.lsRedV.oneCell' = true) (h8 : x.dvRedV.oneCell' = true) (h9 : x.nbV.oneCell' = true) (h10 : x.netV.oneCell' = true) (h11 : x.agV.oneCell' = true) (h12 : x.cdV.oneCell' = true) (h13 : x.pvRedV.oneCell' = true) : x.C.all (·.oneCell') = true := by
  rw [Array.all_eq_true_iff_forall_mem]
  intro v hv
  simp only [Rt.C, List.mem_toArray, List.mem_cons, List.not_mem_nil, or_false] at hv
  rcases hv with rfl | rfl | rfl | rfl | rfl | rfl | rfl | rfl | rfl | rfl | rfl | rfl | rfl | rfl | rfl | rfl | rfl | rfl | rfl | rfl | rfl | rfl | rfl | rfl | rfl <;> first | rfl | exact h0 | exact h1 | exact h2 | exact h3 | exact h4 | exact h5 | exact h6 | exact h7 | exact h8 | exact h9 | exact h10 | exact h11 | exact h12 | exact h13
theorem SlV.one {α : Type} {w : World} {B n : Nat} {cells : α → Array Value} {v : Value} {xs : List α} (h : SlV w B n cells v xs) : v.oneCell' = true := by obtain ⟨A, c, rfl, _⟩ := h; rfl
/-- A router lies in memory below block B. -/
structure Rt.at (w : World) (B : Nat) (r : Rt) : Prop where
  hifs : SlV w B 12 If.C r.ifsV r.ifs
  hlists : SlV w B 2 PList.C r.listsV r.lists
  nlists : ∀ x ∈ r.lists, x.at w B
  hmaps : SlV w B 2 RMap.C r.mapsV r.maps
  nmaps : ∀ x ∈ r.maps, x.at w B
  hacls : SlV w B 2 AList.C r.aclsV r.acls
  nacls : ∀ x ∈ r.acls, x.at w B
  hnat : SlV w B 9 Tr.C r.natV r.nat
  hstat : SlV w B 7 Sr.C r.statV r.stat
  hranges : SlV w B 3 AR.C r.rangesV r.ranges
  hlsRed : SlV w B 5 Rd.C r.lsRedV r.lsRed
  hdvRed : SlV w B 5 Rd.C r.dvRedV r.dvRed
  hnb : SlV w B 4 Nb.C r.nbV r.nb
  hnet : SlV w B 2 Pf.C r.netV r.net
  hag : SlV w B 3 Ag.C r.agV r.ag
  hcd : SlV w B 5 Cd.C r.cdV r.cd
  hpvRed : SlV w B 5 Rd.C r.pvRedV r.pvRed
def Rt.fit (r : Rt) : Prop := (∀ x ∈ r.ifs, x.fit) ∧ (∀ x ∈ r.lists, x.fit) ∧ (∀ x ∈ r.maps, x.fit) ∧ (∀ x ∈ r.acls, x.fit) ∧ (∀ x ∈ r.nat, x.fit) ∧ (∀ x ∈ r.stat, x.fit) ∧ (∀ x ∈ r.ranges, x.fit) ∧ (∀ x ∈ r.lsRed, x.fit) ∧ (∀ x ∈ r.dvRed, x.fit) ∧ (∀ x ∈ r.nb, x.fit) ∧ (∀ x ∈ r.net, x.fit) ∧ (∀ x ∈ r.ag, x.fit) ∧ (∀ x ∈ r.cd, x.fit) ∧ (∀ x ∈ r.pvRed, x.fit)
theorem Rt.at.below {w w' : World} {B : Nat} {r : Rt} (h : r.at w B) (hb : Below B w w') : r.at w' B := ⟨h.hifs.below hb, h.hlists.below hb, fun x hx => SlV.below (h.nlists x hx) hb, h.hmaps.below hb, fun x hx => SlV.below (h.nmaps x hx) hb, h.hacls.below hb, fun x hx => SlV.below (h.nacls x hx) hb, h.hnat.below hb, h.hstat.below hb, h.hranges.below hb, h.hlsRed.below hb, h.hdvRed.below hb, h.hnb.below hb, h.hnet.below hb, h.hag.below hb, h.hcd.below hb, h.hpvRed.below hb⟩
theorem Rt.at.one {w : World} {B : Nat} {r : Rt} (h : r.at w B) : r.C.all (·.oneCell') = true := r.one h.hifs.one h.hlists.one h.hmaps.one h.hacls.one h.hnat.one h.hstat.one h.hranges.one h.hlsRed.one h.hdvRed.one h.hnb.one h.hnet.one h.hag.one h.hcd.one h.hpvRed.one
end Go.Proofs.YtnhemjdmleilcaaGreatDoor

/- The lookups of package model: Interface, PrefixList, RouteMap, ACL by name, Address; within. Condition: the router lies in memory. -/
namespace Go.Proofs.YtnhemjdmleilcaaGreatDoor
open Go.RowKit Go.Shelf

/-- The place of the first element that meets p, or -1. -/
def idxF {α : Type} (p : α → Bool) : List α → Nat → Int
  | [], _ => -1
  | y :: r, i => if p y then (i : Int) else idxF p r (i + 1)
theorem idxF_lib {α : Type} (p : α → Bool) (d : α) : ∀ (l : List α) (i : Nat), Lib.idxByFrom (fun _ y => p y) d l i = idxF p l i
  | [], _ => rfl
  | y :: r, i => by unfold Lib.idxByFrom idxF; rw [idxF_lib p d r (i + 1)]
theorem idxF_take {α : Type} (p : α → Bool) (d : α) (l : List α) : Lib.idxBy (fun _ y => p y) (l.take l.length) d = idxF p l 0 := by
  rw [List.take_length]; exact idxF_lib p d l 0
theorem idxF_bd {α : Type} (p : α → Bool) : ∀ (l : List α) (i : Nat), -1 ≤ idxF p l i ∧ idxF p l i < (i + l.length : Nat)
  | [], i => ⟨Int.le_refl _, by unfold idxF; omega⟩
  | y :: r, i => by
    unfold idxF
    have := idxF_bd p r (i + 1)
    split
    · exact ⟨by omega, by simp only [List.length_cons]; omega⟩
    · exact ⟨this.1, by simp only [List.length_cons] at this ⊢; omega⟩
/-- The cells of a slice's elements, as the library's contracts ask for them. -/
theorem SlV.cells {α : Type} [Inhabited α] {w : World} {B n : Nat} {cells : α → Array Value} {v : Value} {xs : List α} (hn : 0 < n) (hl : ∀ x, (cells x).toList.length = n) (h : SlV w B n cells v xs) :
    xs = [] ∨ ∃ g o c, v = .slice (some ⟨g, o, none⟩) xs.length c ∧ g < B ∧ ∀ j, j < xs.length → ∀ i u, ((cells xs[j]!).toList)[i]? = some u → w.cell? ⟨g, o + j * n + i, none⟩ = some u := by
  cases xs with
  | nil => exact .inl rfl
  | cons y r =>
    right
    obtain ⟨A, c, rfl, _, A', c', e, _, _, _, h⟩ := h
    injection e with e1 e2 e3
    subst e1
    obtain ⟨g, o, rfl, hg, hc⟩ := h (by simp)
    refine ⟨g, o, c, rfl, hg, fun j hj i u hu => ?_⟩
    have hi : i < n := by
      rcases Nat.lt_or_ge i n with h' | h'
      · exact h'
      · rw [List.getElem?_eq_none (by rw [hl]; exact h')] at hu; cases hu
    rw [Nat.add_assoc]
    refine hc (j * n + i) u ?_
    rw [rows_get (fun x => (cells x).toList) hn hl, Nat.mul_comm j n, Nat.mul_add_div hn, Nat.div_eq_of_lt hi, Nat.add_zero, Nat.mul_add_mod, Nat.mod_eq_of_lt hi, List.getElem?_eq_getElem hj]
    rw [getElem!_pos (y :: r) j hj] at hu
    exact hu
/-- One element of a slice, as a row. -/
theorem SlV.elem {α : Type} {w : World} {B n : Nat} {cells : α → Array Value} {v : Value} {xs : List α} (hn : 0 < n) (hl : ∀ x, (cells x).toList.length = n) (h : SlV w B n cells v xs) {k : Nat} (hk : k < xs.length) :
    ∃ g o c, v = .slice (some ⟨g, o, none⟩) xs.length c ∧ xs.length ≤ c ∧ g < B ∧ w.rangeAt g (o + k * n) (cells xs[k]).toList := by
  obtain ⟨A, c, rfl, hle, A', c', e, _, _, _, h⟩ := h
  injection e with e1 e2 e3
  subst e1
  obtain ⟨g, o, rfl, hg, hc⟩ := h (by omega)
  refine ⟨g, o, c, rfl, hle, hg, fun i u hu => ?_⟩
  have hi : i < n := by
    rcases Nat.lt_or_ge i n with h' | h'
    · exact h'
    · rw [List.getElem?_eq_none (by rw [hl]; exact h')] at hu; cases hu
  rw [Nat.add_assoc]
  refine hc (k * n + i) u ?_
  rw [rows_get (fun x => (cells x).toList) hn hl, Nat.mul_comm k n, Nat.mul_add_div hn, Nat.div_eq_of_lt hi, Nat.add_zero, Nat.mul_add_mod, Nat.mod_eq_of_lt hi, List.getElem?_eq_getElem hk]
  exact hu
def withinB (n lo hi : Int) : Bool := decide (lo ≤ n) && decide (n ≤ hi)
theorem within_any (n lo hi : Int) (w : World) : Calls Tryz.prog 31 #[.int .i64 n, .int .i64 lo, .int .i64 hi] w fun e w' => e = .returned (.bool (withinB n lo hi)) ∧ w = w' := by
  by_cases h1 : lo ≤ n
  · have E : Hid (withinB n lo hi = decide (n ≤ hi)) := Lib.hid (by simp [withinB, h1])
    go_enter Tryz.func31, Tryz.ntmps31
    go_wp2_with fail
    all_goals (go_ret; exact ⟨ret_bool (by rw [E.out]; first | done | (simp; done) | (simp; omega)), rfl⟩)
  · have E : Hid (withinB n lo hi = false) := Lib.hid (by simp [withinB, h1])
    go_enter Tryz.func31, Tryz.ntmps31
    go_wp2_with fail
    go_ret
    exact ⟨ret_bool E.out.symm, rfl⟩
theorem ixIf_zero (A : Option Addr) (c : Nat) (fv : Value) (w : World) : Calls Tryz.prog 83 #[.slice A 0 c, fv] w fun e w' => e = .returned (.int .i64 (-1)) ∧ w = w' := by
  go_enter Tryz.func83, Tryz.ntmps83
  go_wp2_with fail
  go_loopg [8] 1 (fun _ ix wr => ix = .int .i64 0 ∧ w = wr)
  case atStart => exact ⟨rfl, rfl⟩
  case round =>
    obtain ⟨rfl, rfl⟩ := hrel
    go_wp2_with fail
    go_ret
    exact ⟨rfl, rfl⟩
theorem Tryz.aggIf (w : World) : (isAgg 99).run Tryz.prog w = .ok true w := by kernel_rfl
theorem Tryz.szofIf (w : World) : (Go.sizeOf 99).run Tryz.prog w = .ok 12 w := by kernel_rfl
theorem predIf (name : List UInt8) (B : Nat) (w : World) (hB : B < w.heap.size) (hcell : w.cell? ⟨B, 0, none⟩ = some (.string (str name))) :
    PredBelow Tryz.prog 89 #[.pointer (some ⟨B, 0, none⟩)] (fun (x : If) => .agg x.C.toList.toArray) (fun x => x.name == name) w := fun W x hb => by
  have hc : W.cell? ⟨B, 0, none⟩ = some (.string (str name)) := (hb.cell (p := ⟨B, 0, none⟩) hB).trans hcell
  have hc2 : ∀ o, (W.alloc o).cell? ⟨B, 0, none⟩ = some (.string (str name)) := fun o => (World.cell?_alloc_lt W o ⟨B, 0, none⟩ (by show B < _; have := hb.size; omega)).trans hc
  have hb2 := Lib.hid (fun o => hb.alloc hb.size o)
  have E : Hid (((str x.name).toList == (str name).toList) = (x.name == name)) := Lib.hid (by rw [toList_str, toList_str])
  show Calls Tryz.prog 89 #[.agg x.C, .pointer (some ⟨B, 0, none⟩)] W _
  unfold If.C strV
  clear hcell hb hB
  go_enter Tryz.func89, Tryz.ntmps89
  go_wp2_with fail
  all_goals (go_ret; exact ⟨ret_bool (by rw [← E.out]; first | done | (simp_all; done)), hb2.out _⟩)
set_option maxRecDepth 8000 in
set_option maxHeartbeats 1000000 in
theorem interface_any (r : Rt) (name : List UInt8) (w : World) (B : Nat) (h : r.at w B) (hB : B ≤ w.heap.size) : Calls Tryz.prog 49 #[.agg r.C, .string (str name)] w fun e w' => e = .returned (.int .i64 (idxF (fun x => x.name == name) r.ifs 0)) ∧ Below w.heap.size w w' := by
  have H0 := HasC.new w 69 r.C
  have H1 : HasC 69 w.heap.size r.C ((w.alloc (.cells r.C 69)).alloc (.cells #[.string (str name)] 9)) := H0.keep ((Below.refl _ _).alloc (Nat.le_refl _) _)
  have B0 := ((Below.refl w.heap.size w).alloc (Nat.le_refl _) (.cells r.C 69)).alloc (by simp) (.cells #[.string (str name)] 9)
  have c1 : ((w.alloc (.cells r.C 69)).alloc (.cells #[.string (str name)] 9)).cell? ⟨w.heap.size + 1, 0, none⟩ = some (.string (str name)) := by
    have := new_cell (w.alloc (.cells r.C 69)) #[.string (str name)] 9 0
    rw [show (w.alloc (.cells r.C 69)).heap.size = w.heap.size + 1 from by simp] at this
    exact this
  have c0 : ((w.alloc (.cells r.C 69)).alloc (.cells #[.string (str name)] 9)).cell? ⟨w.heap.size, 2, none⟩ = some r.ifsV := H1.cell 2
  have hsz : ((w.alloc (.cells r.C 69)).alloc (.cells #[.string (str name)] 9)).heap.size = w.heap.size + 2 := by simp
  have HS := h.hifs.below (B0.mono hB)
  have K : Calls Tryz.prog 83 #[r.ifsV, .func (.func 89) #[] #[.pointer (some ⟨w.heap.size + 1, 0, none⟩)]] ((w.alloc (.cells r.C 69)).alloc (.cells #[.string (str name)] 9)) fun e w' => e = .returned (.int .i64 (idxF (fun x => x.name == name) r.ifs 0)) ∧ Below w.heap.size w w' := by
    rcases SlV.cells (n := 12) (by decide) (fun _ => rfl) HS with e | ⟨g, o, c, e, hg, hc⟩
    · obtain ⟨A, c, e2, _⟩ := HS
      rw [e2, e]
      refine (ixIf_zero A c _ _).mono ?_
      rintro e w' ⟨rfl, rfl⟩
      exact ⟨rfl, B0⟩
    · rw [e]
      have eg : ∀ args w, (callFunc 89 args).run Tryz.prog w = .ok (.enter 89 args) w := enters_of Tryz.func89 (by kernel_rfl) rfl
      have hm := HS.len
      refine (Tryz.slices_IndexFunc_f83 12 Tryz.aggIf Tryz.szofIf (fun (x : If) => x.C.toList) (fun _ => rfl) (fun x => x.name == name) 89 _ eg g o r.ifs.length c r.ifs _ (predIf name (w.heap.size + 1) _ (by rw [hsz]; omega) c1) (Nat.le_refl _) (by simp only [maxLen] at hm; omega) (by rw [hsz]; omega) hc).mono ?_
      rintro e w' ⟨rfl, hb⟩
      exact ⟨by rw [idxF_take], B0.trans (hb.mono B0.size)⟩
  have HK := Lib.hid K
  clear K HS H0 H1 h
  go_enter Tryz.func49, Tryz.ntmps49
  go_wp2_with fail
  refine HK.out.mono ?_
  rintro e w' ⟨rfl, hb⟩
  go_wp2_with fail
  go_ret
  exact ⟨rfl, hb⟩
theorem ixPList_zero (A : Option Addr) (c : Nat) (fv : Value) (w : World) : Calls Tryz.prog 99 #[.slice A 0 c, fv] w fun e w' => e = .returned (.int .i64 (-1)) ∧ w = w' := by
  go_enter Tryz.func99, Tryz.ntmps99
  go_wp2_with fail
  go_loopg [8] 1 (fun _ ix wr => ix = .int .i64 0 ∧ w = wr)
  case atStart => exact ⟨rfl, rfl⟩
  case round =>
    obtain ⟨rfl, rfl⟩ := hrel
    go_wp2_with fail
    go_ret
    exact ⟨rfl, rfl⟩
theorem Tryz.aggPList (w : World) : (isAgg 120).run Tryz.prog w = .ok true w := by kernel_rfl
theorem Tryz.szofPList (w : World) : (Go.sizeOf 120).run Tryz.prog w = .ok 2 w := by kernel_rfl
theorem predPList (name : List UInt8) (B : Nat) (w : World) (hB : B < w.heap.size) (hcell : w.cell? ⟨B, 0, none⟩ = some (.string (str name))) :
    PredBelow Tryz.prog 100 #[.pointer (some ⟨B, 0, none⟩)] (fun (x : PList) => .agg x.C.toList.toArray) (fun x => x.name == name) w := fun W x hb => by
  have hc : W.cell? ⟨B, 0, none⟩ = some (.string (str name)) := (hb.cell (p := ⟨B, 0, none⟩) hB).trans hcell
  have hc2 : ∀ o, (W.alloc o).cell? ⟨B, 0, none⟩ = some (.string (str name)) := fun o => (World.cell?_alloc_lt W o ⟨B, 0, none⟩ (by show B < _; have := hb.size; omega)).trans hc
  have hb2 := Lib.hid (fun o => hb.alloc hb.size o)
  have E : Hid (((str x.name).toList == (str name).toList) = (x.name == name)) := Lib.hid (by rw [toList_str, toList_str])
  show Calls Tryz.prog 100 #[.agg x.C, .pointer (some ⟨B, 0, none⟩)] W _
  unfold PList.C strV
  clear hcell hb hB
  go_enter Tryz.func100, Tryz.ntmps100
  go_wp2_with fail
  all_goals (go_ret; exact ⟨ret_bool (by rw [← E.out]; first | done | (simp_all; done)), hb2.out _⟩)
set_option maxRecDepth 8000 in
set_option maxHeartbeats 1000000 in
theorem prefixList_any (r : Rt) (name : List UInt8) (w : World) (B : Nat) (h : r.at w B) (hB : B ≤ w.heap.size) : Calls Tryz.prog 73 #[.agg r.C, .string (str name)] w fun e w' => e = .returned (.int .i64 (idxF (fun x => x.name == name) r.lists 0)) ∧ Below w.heap.size w w' := by
  have H0 := HasC.new w 69 r.C
  have H1 : HasC 69 w.heap.size r.C ((w.alloc (.cells r.C 69)).alloc (.cells #[.string (str name)] 9)) := H0.keep ((Below.refl _ _).alloc (Nat.le_refl _) _)
  have B0 := ((Below.refl w.heap.size w).alloc (Nat.le_refl _) (.cells r.C 69)).alloc (by simp) (.cells #[.string (str name)] 9)
  have c1 : ((w.alloc (.cells r.C 69)).alloc (.cells #[.string (str name)] 9)).cell? ⟨w.heap.size + 1, 0, none⟩ = some (.string (str name)) := by
    have := new_cell (w.alloc (.cells r.C 69)) #[.string (str name)] 9 0
    rw [show (w.alloc (.cells r.C 69)).heap.size = w.heap.size + 1 from by simp] at this
    exact this
  have c0 : ((w.alloc (.cells r.C 69)).alloc (.cells #[.string (str name)] 9)).cell? ⟨w.heap.size, 3, none⟩ = some r.listsV := H1.cell 3
  have hsz : ((w.alloc (.cells r.C 69)).alloc (.cells #[.string (str name)] 9)).heap.size = w.heap.size + 2 := by simp
  have HS := h.hlists.below (B0.mono hB)
  have K : Calls Tryz.prog 99 #[r.listsV, .func (.func 100) #[] #[.pointer (some ⟨w.heap.size + 1, 0, none⟩)]] ((w.alloc (.cells r.C 69)).alloc (.cells #[.string (str name)] 9)) fun e w' => e = .returned (.int .i64 (idxF (fun x => x.name == name) r.lists 0)) ∧ Below w.heap.size w w' := by
    rcases SlV.cells (n := 2) (by decide) (fun _ => rfl) HS with e | ⟨g, o, c, e, hg, hc⟩
    · obtain ⟨A, c, e2, _⟩ := HS
      rw [e2, e]
      refine (ixPList_zero A c _ _).mono ?_
      rintro e w' ⟨rfl, rfl⟩
      exact ⟨rfl, B0⟩
    · rw [e]
      have eg : ∀ args w, (callFunc 100 args).run Tryz.prog w = .ok (.enter 100 args) w := enters_of Tryz.func100 (by kernel_rfl) rfl
      have hm := HS.len
      refine (Tryz.slices_IndexFunc_f99 2 Tryz.aggPList Tryz.szofPList (fun (x : PList) => x.C.toList) (fun _ => rfl) (fun x => x.name == name) 100 _ eg g o r.lists.length c r.lists _ (predPList name (w.heap.size + 1) _ (by rw [hsz]; omega) c1) (Nat.le_refl _) (by simp only [maxLen] at hm; omega) (by rw [hsz]; omega) hc).mono ?_
      rintro e w' ⟨rfl, hb⟩
      exact ⟨by rw [idxF_take], B0.trans (hb.mono B0.size)⟩
  have HK := Lib.hid K
  clear K HS H0 H1 h
  go_enter Tryz.func73, Tryz.ntmps73
  go_wp2_with fail
  refine HK.out.mono ?_
  rintro e w' ⟨rfl, hb⟩
  go_wp2_with fail
  go_ret
  exact ⟨rfl, hb⟩
theorem ixRMap_zero (A : Option Addr) (c : Nat) (fv : Value) (w : World) : Calls Tryz.prog 101 #[.slice A 0 c, fv] w fun e w' => e = .returned (.int .i64 (-1)) ∧ w = w' := by
  go_enter Tryz.func101, Tryz.ntmps101
  go_wp2_with fail
  go_loopg [8] 1 (fun _ ix wr => ix = .int .i64 0 ∧ w = wr)
  case atStart => exact ⟨rfl, rfl⟩
  case round =>
    obtain ⟨rfl, rfl⟩ := hrel
    go_wp2_with fail
    go_ret
    exact ⟨rfl, rfl⟩
theorem Tryz.aggRMap (w : World) : (isAgg 126).run Tryz.prog w = .ok true w := by kernel_rfl
theorem Tryz.szofRMap (w : World) : (Go.sizeOf 126).run Tryz.prog w = .ok 2 w := by kernel_rfl
theorem predRMap (name : List UInt8) (B : Nat) (w : World) (hB : B < w.heap.size) (hcell : w.cell? ⟨B, 0, none⟩ = some (.string (str name))) :
    PredBelow Tryz.prog 102 #[.pointer (some ⟨B, 0, none⟩)] (fun (x : RMap) => .agg x.C.toList.toArray) (fun x => x.name == name) w := fun W x hb => by
  have hc : W.cell? ⟨B, 0, none⟩ = some (.string (str name)) := (hb.cell (p := ⟨B, 0, none⟩) hB).trans hcell
  have hc2 : ∀ o, (W.alloc o).cell? ⟨B, 0, none⟩ = some (.string (str name)) := fun o => (World.cell?_alloc_lt W o ⟨B, 0, none⟩ (by show B < _; have := hb.size; omega)).trans hc
  have hb2 := Lib.hid (fun o => hb.alloc hb.size o)
  have E : Hid (((str x.name).toList == (str name).toList) = (x.name == name)) := Lib.hid (by rw [toList_str, toList_str])
  show Calls Tryz.prog 102 #[.agg x.C, .pointer (some ⟨B, 0, none⟩)] W _
  unfold RMap.C strV
  clear hcell hb hB
  go_enter Tryz.func102, Tryz.ntmps102
  go_wp2_with fail
  all_goals (go_ret; exact ⟨ret_bool (by rw [← E.out]; first | done | (simp_all; done)), hb2.out _⟩)
set_option maxRecDepth 8000 in
set_option maxHeartbeats 1000000 in
theorem routeMap_any (r : Rt) (name : List UInt8) (w : World) (B : Nat) (h : r.at w B) (hB : B ≤ w.heap.size) : Calls Tryz.prog 74 #[.agg r.C, .string (str name)] w fun e w' => e = .returned (.int .i64 (idxF (fun x => x.name == name) r.maps 0)) ∧ Below w.heap.size w w' := by
  have H0 := HasC.new w 69 r.C
  have H1 : HasC 69 w.heap.size r.C ((w.alloc (.cells r.C 69)).alloc (.cells #[.string (str name)] 9)) := H0.keep ((Below.refl _ _).alloc (Nat.le_refl _) _)
  have B0 := ((Below.refl w.heap.size w).alloc (Nat.le_refl _) (.cells r.C 69)).alloc (by simp) (.cells #[.string (str name)] 9)
  have c1 : ((w.alloc (.cells r.C 69)).alloc (.cells #[.string (str name)] 9)).cell? ⟨w.heap.size + 1, 0, none⟩ = some (.string (str name)) := by
    have := new_cell (w.alloc (.cells r.C 69)) #[.string (str name)] 9 0
    rw [show (w.alloc (.cells r.C 69)).heap.size = w.heap.size + 1 from by simp] at this
    exact this
  have c0 : ((w.alloc (.cells r.C 69)).alloc (.cells #[.string (str name)] 9)).cell? ⟨w.heap.size, 4, none⟩ = some r.mapsV := H1.cell 4
  have hsz : ((w.alloc (.cells r.C 69)).alloc (.cells #[.string (str name)] 9)).heap.size = w.heap.size + 2 := by simp
  have HS := h.hmaps.below (B0.mono hB)
  have K : Calls Tryz.prog 101 #[r.mapsV, .func (.func 102) #[] #[.pointer (some ⟨w.heap.size + 1, 0, none⟩)]] ((w.alloc (.cells r.C 69)).alloc (.cells #[.string (str name)] 9)) fun e w' => e = .returned (.int .i64 (idxF (fun x => x.name == name) r.maps 0)) ∧ Below w.heap.size w w' := by
    rcases SlV.cells (n := 2) (by decide) (fun _ => rfl) HS with e | ⟨g, o, c, e, hg, hc⟩
    · obtain ⟨A, c, e2, _⟩ := HS
      rw [e2, e]
      refine (ixRMap_zero A c _ _).mono ?_
      rintro e w' ⟨rfl, rfl⟩
      exact ⟨rfl, B0⟩
    · rw [e]
      have eg : ∀ args w, (callFunc 102 args).run Tryz.prog w = .ok (.enter 102 args) w := enters_of Tryz.func102 (by kernel_rfl) rfl
      have hm := HS.len
      refine (Tryz.slices_IndexFunc_f101 2 Tryz.aggRMap Tryz.szofRMap (fun (x : RMap) => x.C.toList) (fun _ => rfl) (fun x => x.name == name) 102 _ eg g o r.maps.length c r.maps _ (predRMap name (w.heap.size + 1) _ (by rw [hsz]; omega) c1) (Nat.le_refl _) (by simp only [maxLen] at hm; omega) (by rw [hsz]; omega) hc).mono ?_
      rintro e w' ⟨rfl, hb⟩
      exact ⟨by rw [idxF_take], B0.trans (hb.mono B0.size)⟩
  have HK := Lib.hid K
  clear K HS H0 H1 h
  go_enter Tryz.func74, Tryz.ntmps74
  go_wp2_with fail
  refine HK.out.mono ?_
  rintro e w' ⟨rfl, hb⟩
  go_wp2_with fail
  go_ret
  exact ⟨rfl, hb⟩
theorem ixAList_zero (A : Option Addr) (c : Nat) (fv : Value) (w : World) : Calls Tryz.prog 103 #[.slice A 0 c, fv] w fun e w' => e = .returned (.int .i64 (-1)) ∧ w = w' := by
  go_enter Tryz.func103, Tryz.ntmps103
  go_wp2_with fail
  go_loopg [8] 1 (fun _ ix wr => ix = .int .i64 0 ∧ w = wr)
  case atStart => exact ⟨rfl, rfl⟩
  case round =>
    obtain ⟨rfl, rfl⟩ := hrel
    go_wp2_with fail
    go_ret
    exact ⟨rfl, rfl⟩
theorem Tryz.aggAList (w : World) : (isAgg 132).run Tryz.prog w = .ok true w := by kernel_rfl
theorem Tryz.szofAList (w : World) : (Go.sizeOf 132).run Tryz.prog w = .ok 2 w := by kernel_rfl
theorem predAList (name : List UInt8) (B : Nat) (w : World) (hB : B < w.heap.size) (hcell : w.cell? ⟨B, 0, none⟩ = some (.string (str name))) :
    PredBelow Tryz.prog 104 #[.pointer (some ⟨B, 0, none⟩)] (fun (x : AList) => .agg x.C.toList.toArray) (fun x => x.name == name) w := fun W x hb => by
  have hc : W.cell? ⟨B, 0, none⟩ = some (.string (str name)) := (hb.cell (p := ⟨B, 0, none⟩) hB).trans hcell
  have hc2 : ∀ o, (W.alloc o).cell? ⟨B, 0, none⟩ = some (.string (str name)) := fun o => (World.cell?_alloc_lt W o ⟨B, 0, none⟩ (by show B < _; have := hb.size; omega)).trans hc
  have hb2 := Lib.hid (fun o => hb.alloc hb.size o)
  have E : Hid (((str x.name).toList == (str name).toList) = (x.name == name)) := Lib.hid (by rw [toList_str, toList_str])
  show Calls Tryz.prog 104 #[.agg x.C, .pointer (some ⟨B, 0, none⟩)] W _
  unfold AList.C strV
  clear hcell hb hB
  go_enter Tryz.func104, Tryz.ntmps104
  go_wp2_with fail
  all_goals (go_ret; exact ⟨ret_bool (by rw [← E.out]; first | done | (simp_all; done)), hb2.out _⟩)
set_option maxRecDepth 8000 in
set_option maxHeartbeats 1000000 in
theorem aCL_any (r : Rt) (name : List UInt8) (w : World) (B : Nat) (h : r.at w B) (hB : B ≤ w.heap.size) : Calls Tryz.prog 76 #[.agg r.C, .string (str name)] w fun e w' => e = .returned (.int .i64 (idxF (fun x => x.name == name) r.acls 0)) ∧ Below w.heap.size w w' := by
  have H0 := HasC.new w 69 r.C
  have H1 : HasC 69 w.heap.size r.C ((w.alloc (.cells r.C 69)).alloc (.cells #[.string (str name)] 9)) := H0.keep ((Below.refl _ _).alloc (Nat.le_refl _) _)
  have B0 := ((Below.refl w.heap.size w).alloc (Nat.le_refl _) (.cells r.C 69)).alloc (by simp) (.cells #[.string (str name)] 9)
  have c1 : ((w.alloc (.cells r.C 69)).alloc (.cells #[.string (str name)] 9)).cell? ⟨w.heap.size + 1, 0, none⟩ = some (.string (str name)) := by
    have := new_cell (w.alloc (.cells r.C 69)) #[.string (str name)] 9 0
    rw [show (w.alloc (.cells r.C 69)).heap.size = w.heap.size + 1 from by simp] at this
    exact this
  have c0 : ((w.alloc (.cells r.C 69)).alloc (.cells #[.string (str name)] 9)).cell? ⟨w.heap.size, 5, none⟩ = some r.aclsV := H1.cell 5
  have hsz : ((w.alloc (.cells r.C 69)).alloc (.cells #[.string (str name)] 9)).heap.size = w.heap.size + 2 := by simp
  have HS := h.hacls.below (B0.mono hB)
  have K : Calls Tryz.prog 103 #[r.aclsV, .func (.func 104) #[] #[.pointer (some ⟨w.heap.size + 1, 0, none⟩)]] ((w.alloc (.cells r.C 69)).alloc (.cells #[.string (str name)] 9)) fun e w' => e = .returned (.int .i64 (idxF (fun x => x.name == name) r.acls 0)) ∧ Below w.heap.size w w' := by
    rcases SlV.cells (n := 2) (by decide) (fun _ => rfl) HS with e | ⟨g, o, c, e, hg, hc⟩
    · obtain ⟨A, c, e2, _⟩ := HS
      rw [e2, e]
      refine (ixAList_zero A c _ _).mono ?_
      rintro e w' ⟨rfl, rfl⟩
      exact ⟨rfl, B0⟩
    · rw [e]
      have eg : ∀ args w, (callFunc 104 args).run Tryz.prog w = .ok (.enter 104 args) w := enters_of Tryz.func104 (by kernel_rfl) rfl
      have hm := HS.len
      refine (Tryz.slices_IndexFunc_f103 2 Tryz.aggAList Tryz.szofAList (fun (x : AList) => x.C.toList) (fun _ => rfl) (fun x => x.name == name) 104 _ eg g o r.acls.length c r.acls _ (predAList name (w.heap.size + 1) _ (by rw [hsz]; omega) c1) (Nat.le_refl _) (by simp only [maxLen] at hm; omega) (by rw [hsz]; omega) hc).mono ?_
      rintro e w' ⟨rfl, hb⟩
      exact ⟨by rw [idxF_take], B0.trans (hb.mono B0.size)⟩
  have HK := Lib.hid K
  clear K HS H0 H1 h
  go_enter Tryz.func76, Tryz.ntmps76
  go_wp2_with fail
  refine HK.out.mono ?_
  rintro e w' ⟨rfl, hb⟩
  go_wp2_with fail
  go_ret
  exact ⟨rfl, hb⟩
/-- An interface has the address a. -/
def hasA (a : Nat) (x : If) : Bool := !(x.len == 0) && x.addr == a
theorem predAdr (adr : Nat) (B : Nat) (w : World) (hB : B < w.heap.size) (hcell : w.cell? ⟨B, 0, none⟩ = some (.int .u32 (adr : Int))) :
    PredBelow Tryz.prog 84 #[.pointer (some ⟨B, 0, none⟩)] (fun (x : If) => .agg x.C.toList.toArray) (hasA adr) w := fun W x hb => by
  have hc : W.cell? ⟨B, 0, none⟩ = some (.int .u32 (adr : Int)) := (hb.cell (p := ⟨B, 0, none⟩) hB).trans hcell
  have hc2 : ∀ o, (W.alloc o).cell? ⟨B, 0, none⟩ = some (.int .u32 (adr : Int)) := fun o => (World.cell?_alloc_lt W o ⟨B, 0, none⟩ (by show B < _; have := hb.size; omega)).trans hc
  have hb2 := Lib.hid (fun o => hb.alloc hb.size o)
  have E : Hid (hasA adr x = (!(x.len == 0) && x.addr == adr)) := Lib.hid rfl
  show Calls Tryz.prog 84 #[.agg x.C, .pointer (some ⟨B, 0, none⟩)] W _
  obtain ⟨name, addr, len, vlan, down, ls, area, cost, dv, inn, out, side⟩ := x
  unfold If.C strV
  dsimp only at E ⊢
  clear hcell hb hB
  by_cases h1 : len = 0
  · subst h1
    go_enter Tryz.func84, Tryz.ntmps84
    go_wp2_with fail
    go_ret
    exact ⟨ret_bool (by rw [E.out]; rfl), hb2.out _⟩
  · have d1 : (len != 0) = true := by simpa using h1
    have d2 : (len == 0) = false := by simpa using h1
    have d3 : ((addr : Int) == (adr : Int)) = (addr == adr) := by rw [Bool.eq_iff_iff]; simp; omega
    go_enter Tryz.func84, Tryz.ntmps84
    go_wp2_with fail
    go_ret
    exact ⟨ret_bool (by rw [E.out, d2, ← d3]; first | rfl | (simp; done)), hb2.out _⟩
set_option maxRecDepth 8000 in
set_option maxHeartbeats 1000000 in
theorem address_any (r : Rt) (adr : Nat) (w : World) (B : Nat) (h : r.at w B) (hB : B ≤ w.heap.size) : Calls Tryz.prog 44 #[.agg r.C, .int .u32 (adr : Int)] w fun e w' => e = .returned (.int .i64 (idxF (hasA adr) r.ifs 0)) ∧ Below w.heap.size w w' := by
  have H0 := HasC.new w 69 r.C
  have H1 : HasC 69 w.heap.size r.C ((w.alloc (.cells r.C 69)).alloc (.cells #[.int .u32 (adr : Int)] 25)) := H0.keep ((Below.refl _ _).alloc (Nat.le_refl _) _)
  have B0 := ((Below.refl w.heap.size w).alloc (Nat.le_refl _) (.cells r.C 69)).alloc (by simp) (.cells #[.int .u32 (adr : Int)] 25)
  have c1 : ((w.alloc (.cells r.C 69)).alloc (.cells #[.int .u32 (adr : Int)] 25)).cell? ⟨w.heap.size + 1, 0, none⟩ = some (.int .u32 (adr : Int)) := by
    have := new_cell (w.alloc (.cells r.C 69)) #[.int .u32 (adr : Int)] 25 0
    rw [show (w.alloc (.cells r.C 69)).heap.size = w.heap.size + 1 from by simp] at this
    exact this
  have c0 : ((w.alloc (.cells r.C 69)).alloc (.cells #[.int .u32 (adr : Int)] 25)).cell? ⟨w.heap.size, 2, none⟩ = some r.ifsV := H1.cell 2
  have hsz : ((w.alloc (.cells r.C 69)).alloc (.cells #[.int .u32 (adr : Int)] 25)).heap.size = w.heap.size + 2 := by simp
  have HS := h.hifs.below (B0.mono hB)
  have K : Calls Tryz.prog 83 #[r.ifsV, .func (.func 84) #[] #[.pointer (some ⟨w.heap.size + 1, 0, none⟩)]] ((w.alloc (.cells r.C 69)).alloc (.cells #[.int .u32 (adr : Int)] 25)) fun e w' => e = .returned (.int .i64 (idxF (hasA adr) r.ifs 0)) ∧ Below w.heap.size w w' := by
    rcases SlV.cells (n := 12) (by decide) (fun _ => rfl) HS with e | ⟨g, o, c, e, hg, hc⟩
    · obtain ⟨A, c, e2, _⟩ := HS
      rw [e2, e]
      refine (ixIf_zero A c _ _).mono ?_
      rintro e w' ⟨rfl, rfl⟩
      exact ⟨rfl, B0⟩
    · rw [e]
      have eg : ∀ args w, (callFunc 84 args).run Tryz.prog w = .ok (.enter 84 args) w := enters_of Tryz.func84 (by kernel_rfl) rfl
      have hm := HS.len
      refine (Tryz.slices_IndexFunc_f83 12 Tryz.aggIf Tryz.szofIf (fun (x : If) => x.C.toList) (fun _ => rfl) (hasA adr) 84 _ eg g o r.ifs.length c r.ifs _ (predAdr adr (w.heap.size + 1) _ (by rw [hsz]; omega) c1) (Nat.le_refl _) (by simp only [maxLen] at hm; omega) (by rw [hsz]; omega) hc).mono ?_
      rintro e w' ⟨rfl, hb⟩
      exact ⟨by rw [idxF_take], B0.trans (hb.mono B0.size)⟩
  have HK := Lib.hid K
  clear K HS H0 H1 h
  go_enter Tryz.func44, Tryz.ntmps44
  go_wp2_with fail
  refine HK.out.mono ?_
  rintro e w' ⟨rfl, hb⟩
  go_wp2_with fail
  go_ret
  exact ⟨rfl, hb⟩
/-- An interface's address is one of the router q's. -/
def sharesB (q : Rt) (x : If) : Bool := !(x.len == 0) && decide (0 ≤ idxF (hasA x.addr) q.ifs 0)
set_option maxRecDepth 8000 in
set_option maxHeartbeats 1000000 in
theorem predShare (q : Rt) (B D : Nat) (w : World) (hB : B < w.heap.size) (hD : D ≤ w.heap.size) (hq : q.at w D) (hcell : HasC 69 B q.C w) :
    PredBelow Tryz.prog 43 #[.pointer (some ⟨B, 0, none⟩)] (fun (x : If) => .agg x.C.toList.toArray) (sharesB q) w := fun W x hb => by
  have hc : HasC 69 B q.C W := hcell.below hb hB
  have hc2 := Lib.hid (fun o => (hc.keep ((Below.refl _ W).alloc (Nat.le_refl _) o)).range)
  have hb2 := Lib.hid (fun o => hb.alloc hb.size o)
  have E : Hid (sharesB q x = (!(x.len == 0) && decide (0 ≤ idxF (hasA x.addr) q.ifs 0))) := Lib.hid rfl
  have HA := Lib.hid (fun o => address_any q x.addr (W.alloc o) D ((hq.below (hb.mono hD)).below ((Below.refl _ W).alloc (Nat.le_trans hD hb.size) o)) (Nat.le_trans hD (Nat.le_trans hb.size (by simp))))
  have HZ := Lib.hid (Nat.le_trans hb.size (show W.heap.size ≤ W.heap.size + 1 by omega))
  show Calls Tryz.prog 43 #[.agg x.C, .pointer (some ⟨B, 0, none⟩)] W _
  obtain ⟨name, addr, len, vlan, down, ls, area, cost, dv, inn, out, side⟩ := x
  unfold If.C strV
  dsimp only at E HA ⊢
  clear hcell hb hB hq hD hc
  by_cases h1 : len = 0
  · subst h1
    go_enter Tryz.func43, Tryz.ntmps43
    go_wp2_with fail
    go_ret
    exact ⟨ret_bool (by rw [E.out]; rfl), hb2.out _⟩
  · have d1 : (len != 0) = true := by simpa using h1
    have d2 : (len == 0) = false := by simpa using h1
    go_enter Tryz.func43, Tryz.ntmps43
    go_wp2_with (first | (refine wpList_unguard (by rfl) (wpList_loadRow rfl 69 _ rfl rfl (hc2.out _) Tryz.rowRt Tryz.sizeRt ?_)))
    refine (HA.out _).mono ?_
    rintro e w' ⟨rfl, hb3⟩
    go_wp2_with fail
    all_goals (go_ret; exact ⟨ret_bool (by rw [E.out, d2]; first | rfl | (simp; done) | (simp; omega)), (hb2.out _).trans (hb3.mono (by simp only [World.size_alloc]; exact HZ.out))⟩)
set_option maxRecDepth 8000 in
set_option maxHeartbeats 1000000 in
theorem shareAddress_any (q r : Rt) (w : World) (B : Nat) (hq : q.at w B) (h : r.at w B) (hB : B ≤ w.heap.size) : Calls Tryz.prog 13 #[.agg q.C, .agg r.C] w fun e w' => e = .returned (.bool (r.ifs.any (sharesB q))) ∧ Below w.heap.size w w' := by
  have B0 := ((Below.refl w.heap.size w).alloc (Nat.le_refl _) (.cells q.C 69)).alloc (by simp) (.cells r.C 69)
  have H1 : HasC 69 w.heap.size q.C ((w.alloc (.cells q.C 69)).alloc (.cells r.C 69)) := (HasC.new w 69 q.C).keep ((Below.refl _ _).alloc (Nat.le_refl _) _)
  have H2 : HasC 69 (w.heap.size + 1) r.C ((w.alloc (.cells q.C 69)).alloc (.cells r.C 69)) := by
    have := HasC.new (w.alloc (.cells q.C 69)) 69 r.C
    rw [show (w.alloc (.cells q.C 69)).heap.size = w.heap.size + 1 from by simp] at this
    exact this
  have c0 : ((w.alloc (.cells q.C 69)).alloc (.cells r.C 69)).cell? ⟨w.heap.size + 1, 2, none⟩ = some r.ifsV := H2.cell 2
  have hsz : ((w.alloc (.cells q.C 69)).alloc (.cells r.C 69)).heap.size = w.heap.size + 2 := by simp
  have HS := h.hifs.below (B0.mono hB)
  have HQ := hq.below (B0.mono hB)
  have K : Calls Tryz.prog 42 #[r.ifsV, .func (.func 43) #[] #[.pointer (some ⟨w.heap.size, 0, none⟩)]] ((w.alloc (.cells q.C 69)).alloc (.cells r.C 69)) fun e w' => e = .returned (.bool (r.ifs.any (sharesB q))) ∧ Below w.heap.size w w' := by
    rcases SlV.cells (n := 12) (by decide) (fun _ => rfl) HS with e | ⟨g, o, c, e, hg, hc⟩
    · obtain ⟨A, c, e2, _⟩ := HS
      rw [e2, e]
      have HZ := Lib.hid (fun fv w => ixIf_zero A c fv w)
      have B1 := Lib.hid B0
      clear c0 H1 H2 HQ hsz B0
      generalize ((w.alloc (.cells q.C 69)).alloc (.cells r.C 69)) = W at B1 ⊢
      go_enter Tryz.func42, Tryz.ntmps42
      go_wp2_with fail
      refine (HZ.out _ _).mono ?_
      rintro e w' ⟨rfl, rfl⟩
      go_wp2_with fail
      go_ret
      exact ⟨rfl, B1.out⟩
    · rw [e]
      have eg : ∀ args w, (callFunc 43 args).run Tryz.prog w = .ok (.enter 43 args) w := enters_of Tryz.func43 (by kernel_rfl) rfl
      have hm := HS.len
      refine (Tryz.slices_ContainsFunc 12 Tryz.aggIf Tryz.szofIf (fun (x : If) => x.C.toList) (fun _ => rfl) (sharesB q) 43 _ eg g o r.ifs.length c r.ifs _ (predShare q w.heap.size B _ (by rw [hsz]; omega) (by rw [hsz]; omega) HQ H1) (Nat.le_refl _) (by simp only [maxLen] at hm; omega) (by rw [hsz]; omega) hc).mono ?_
      rintro e w' ⟨rfl, hb⟩
      exact ⟨by rw [List.take_length], B0.trans (hb.mono B0.size)⟩
  have HK := Lib.hid K
  clear K HS H1 H2 h hq HQ
  go_enter Tryz.func13, Tryz.ntmps13
  go_wp2_with fail
  refine HK.out.mono ?_
  rintro e w' ⟨rfl, hb⟩
  go_wp2_with fail
  go_ret
  exact ⟨rfl, hb⟩
end Go.Proofs.YtnhemjdmleilcaaGreatDoor

/- The walks of rightInterface, rightClause, rightPorts, rightRule, checkList. No condition. -/
namespace Go.Proofs.YtnhemjdmleilcaaGreatDoor
open Go.RowKit

def rightIf (x : If) : Bool := withinB x.len 0 32 && withinB x.vlan 0 4094 && withinB x.side 0 2 && !(x.len == 0 && (!(x.addr == 0) || !(x.vlan == 0) || !(x.side == 0) || x.ls || x.dv || !x.inn.isEmpty || !x.out.isEmpty)) && !(!(x.len == 0) && x.addr == 0) && (if x.ls then withinB x.area 0 255 && withinB x.cost 1 65535 else x.area == 0 && x.cost == 0)
set_option maxRecDepth 8000 in
set_option maxHeartbeats 8000000 in
theorem rightInterface_any (x : If) (w : World) : Calls Tryz.prog 69 #[.agg x.C] w fun e w' => e = .returned (.bool (rightIf x)) ∧ Below w.heap.size w w' := by
  have B0 := Lib.hid (fun o => (Below.refl w.heap.size w).alloc (Nat.le_refl _) o)
  have HW := Lib.hid (fun n lo hi w => within_any n lo hi w)
  obtain ⟨name, addr, len, vlan, down, ls, area, cost, dv, inn, out, side⟩ := x
  have E : Hid (rightIf ⟨name, addr, len, vlan, down, ls, area, cost, dv, inn, out, side⟩ = (withinB len 0 32 && withinB vlan 0 4094 && withinB side 0 2 && !(len == 0 && (!(addr == 0) || !(vlan == 0) || !(side == 0) || ls || dv || !inn.isEmpty || !out.isEmpty)) && !(!(len == 0) && addr == 0) && (if ls then withinB area 0 255 && withinB cost 1 65535 else area == 0 && cost == 0))) := Lib.hid rfl
  generalize rightIf ⟨name, addr, len, vlan, down, ls, area, cost, dv, inn, out, side⟩ = res at E ⊢
  unfold If.C
  try unfold strV
  dsimp only
  cases h1 : withinB len 0 32 with
  | false =>
    go_enter Tryz.func69, Tryz.ntmps69
    go_wp2_with (go_at_call 31; refine (HW.out _ _ _ _).mono ?_; rintro e w' ⟨rfl, rfl⟩)
    all_goals (go_ret; exact ⟨ret_bool (by rw [E.out]; first | (simp [*]; done) | (simp [*]; omega)), B0.out _⟩)
  | true =>
    cases h2 : withinB vlan 0 4094 with
    | false =>
      go_enter Tryz.func69, Tryz.ntmps69
      go_wp2_with (go_at_call 31; refine (HW.out _ _ _ _).mono ?_; rintro e w' ⟨rfl, rfl⟩)
      all_goals (go_ret; exact ⟨ret_bool (by rw [E.out]; first | (simp [*]; done) | (simp [*]; omega)), B0.out _⟩)
    | true =>
      cases h3 : withinB side 0 2 with
      | false =>
        go_enter Tryz.func69, Tryz.ntmps69
        go_wp2_with (go_at_call 31; refine (HW.out _ _ _ _).mono ?_; rintro e w' ⟨rfl, rfl⟩)
        all_goals (go_ret; exact ⟨ret_bool (by rw [E.out]; first | (simp [*]; done) | (simp [*]; omega)), B0.out _⟩)
      | true =>
        by_cases h4 : len = 0
        · subst h4
          by_cases h5 : addr = 0
          · subst h5
            by_cases h6 : vlan = 0
            · subst h6
              by_cases h7 : side = 0
              · subst h7
                cases ls with
                | false =>
                  cases dv with
                  | false =>
                    have h10t := toList_str inn
                    cases inn with
                    | nil =>
                      have h11t := toList_str out
                      cases out with
                      | nil =>
                        by_cases h12 : area = 0
                        · subst h12
                          by_cases h13 : cost = 0
                          · subst h13
                            go_enter Tryz.func69, Tryz.ntmps69
                            go_wp2_with (go_at_call 31; refine (HW.out _ _ _ _).mono ?_; rintro e w' ⟨rfl, rfl⟩)
                            all_goals (go_ret; exact ⟨ret_bool (by rw [E.out]; first | (simp [*]; done) | (simp [*]; omega)), B0.out _⟩)
                          · have h13a : (cost == 0) = false := by simpa using h13
                            have h13b : (cost != 0) = true := by simpa using h13
                            go_enter Tryz.func69, Tryz.ntmps69
                            go_wp2_with (go_at_call 31; refine (HW.out _ _ _ _).mono ?_; rintro e w' ⟨rfl, rfl⟩)
                            all_goals (go_ret; exact ⟨ret_bool (by rw [E.out]; first | (simp [*]; done) | (simp [*]; omega)), B0.out _⟩)
                        · have h12a : (area == 0) = false := by simpa using h12
                          have h12b : (area != 0) = true := by simpa using h12
                          go_enter Tryz.func69, Tryz.ntmps69
                          go_wp2_with (go_at_call 31; refine (HW.out _ _ _ _).mono ?_; rintro e w' ⟨rfl, rfl⟩)
                          all_goals (go_ret; exact ⟨ret_bool (by rw [E.out]; first | (simp [*]; done) | (simp [*]; omega)), B0.out _⟩)
                      | cons c13 k13 =>
                        go_enter Tryz.func69, Tryz.ntmps69
                        go_wp2_with (go_at_call 31; refine (HW.out _ _ _ _).mono ?_; rintro e w' ⟨rfl, rfl⟩)
                        all_goals (go_ret; exact ⟨ret_bool (by rw [E.out]; first | (simp [*]; done) | (simp [*]; omega)), B0.out _⟩)
                    | cons c13 k13 =>
                      go_enter Tryz.func69, Tryz.ntmps69
                      go_wp2_with (go_at_call 31; refine (HW.out _ _ _ _).mono ?_; rintro e w' ⟨rfl, rfl⟩)
                      all_goals (go_ret; exact ⟨ret_bool (by rw [E.out]; first | (simp [*]; done) | (simp [*]; omega)), B0.out _⟩)
                  | true =>
                    go_enter Tryz.func69, Tryz.ntmps69
                    go_wp2_with (go_at_call 31; refine (HW.out _ _ _ _).mono ?_; rintro e w' ⟨rfl, rfl⟩)
                    all_goals (go_ret; exact ⟨ret_bool (by rw [E.out]; first | (simp [*]; done) | (simp [*]; omega)), B0.out _⟩)
                | true =>
                  go_enter Tryz.func69, Tryz.ntmps69
                  go_wp2_with (go_at_call 31; refine (HW.out _ _ _ _).mono ?_; rintro e w' ⟨rfl, rfl⟩)
                  all_goals (go_ret; exact ⟨ret_bool (by rw [E.out]; first | (simp [*]; done) | (simp [*]; omega)), B0.out _⟩)
              · have h7a : (side == 0) = false := by simpa using h7
                have h7b : (side != 0) = true := by simpa using h7
                go_enter Tryz.func69, Tryz.ntmps69
                go_wp2_with (go_at_call 31; refine (HW.out _ _ _ _).mono ?_; rintro e w' ⟨rfl, rfl⟩)
                all_goals (go_ret; exact ⟨ret_bool (by rw [E.out]; first | (simp [*]; done) | (simp [*]; omega)), B0.out _⟩)
            · have h6a : (vlan == 0) = false := by simpa using h6
              have h6b : (vlan != 0) = true := by simpa using h6
              go_enter Tryz.func69, Tryz.ntmps69
              go_wp2_with (go_at_call 31; refine (HW.out _ _ _ _).mono ?_; rintro e w' ⟨rfl, rfl⟩)
              all_goals (go_ret; exact ⟨ret_bool (by rw [E.out]; first | (simp [*]; done) | (simp [*]; omega)), B0.out _⟩)
          · have h5a : ((addr : Int) == 0) = false := by simp; omega
            have h5b : ((addr : Int) != 0) = true := by simp; omega
            have h5c : (addr == 0) = false := by simpa using h5
            go_enter Tryz.func69, Tryz.ntmps69
            go_wp2_with (go_at_call 31; refine (HW.out _ _ _ _).mono ?_; rintro e w' ⟨rfl, rfl⟩)
            all_goals (go_ret; exact ⟨ret_bool (by rw [E.out]; first | (simp [*]; done) | (simp [*]; omega)), B0.out _⟩)
        · have h4a : (len == 0) = false := by simpa using h4
          have h4b : (len != 0) = true := by simpa using h4
          by_cases h14 : addr = 0
          · subst h14
            go_enter Tryz.func69, Tryz.ntmps69
            go_wp2_with (go_at_call 31; refine (HW.out _ _ _ _).mono ?_; rintro e w' ⟨rfl, rfl⟩)
            all_goals (go_ret; exact ⟨ret_bool (by rw [E.out]; first | (simp [*]; done) | (simp [*]; omega)), B0.out _⟩)
          · have h14a : ((addr : Int) == 0) = false := by simp; omega
            have h14b : ((addr : Int) != 0) = true := by simp; omega
            have h14c : (addr == 0) = false := by simpa using h14
            cases ls with
            | false =>
              by_cases h16 : area = 0
              · subst h16
                by_cases h17 : cost = 0
                · subst h17
                  go_enter Tryz.func69, Tryz.ntmps69
                  go_wp2_with (go_at_call 31; refine (HW.out _ _ _ _).mono ?_; rintro e w' ⟨rfl, rfl⟩)
                  all_goals (go_ret; exact ⟨ret_bool (by rw [E.out]; first | (simp [*]; done) | (simp [*]; omega)), B0.out _⟩)
                · have h17a : (cost == 0) = false := by simpa using h17
                  have h17b : (cost != 0) = true := by simpa using h17
                  go_enter Tryz.func69, Tryz.ntmps69
                  go_wp2_with (go_at_call 31; refine (HW.out _ _ _ _).mono ?_; rintro e w' ⟨rfl, rfl⟩)
                  all_goals (go_ret; exact ⟨ret_bool (by rw [E.out]; first | (simp [*]; done) | (simp [*]; omega)), B0.out _⟩)
              · have h16a : (area == 0) = false := by simpa using h16
                have h16b : (area != 0) = true := by simpa using h16
                go_enter Tryz.func69, Tryz.ntmps69
                go_wp2_with (go_at_call 31; refine (HW.out _ _ _ _).mono ?_; rintro e w' ⟨rfl, rfl⟩)
                all_goals (go_ret; exact ⟨ret_bool (by rw [E.out]; first | (simp [*]; done) | (simp [*]; omega)), B0.out _⟩)
            | true =>
              cases h18 : withinB area 0 255 with
              | false =>
                go_enter Tryz.func69, Tryz.ntmps69
                go_wp2_with (go_at_call 31; refine (HW.out _ _ _ _).mono ?_; rintro e w' ⟨rfl, rfl⟩)
                all_goals (go_ret; exact ⟨ret_bool (by rw [E.out]; first | (simp [*]; done) | (simp [*]; omega)), B0.out _⟩)
              | true =>
                cases h19 : withinB cost 1 65535 with
                | false =>
                  go_enter Tryz.func69, Tryz.ntmps69
                  go_wp2_with (go_at_call 31; refine (HW.out _ _ _ _).mono ?_; rintro e w' ⟨rfl, rfl⟩)
                  all_goals (go_ret; exact ⟨ret_bool (by rw [E.out]; first | (simp [*]; done) | (simp [*]; omega)), B0.out _⟩)
                | true =>
                  go_enter Tryz.func69, Tryz.ntmps69
                  go_wp2_with (go_at_call 31; refine (HW.out _ _ _ _).mono ?_; rintro e w' ⟨rfl, rfl⟩)
                  all_goals (go_ret; exact ⟨ret_bool (by rw [E.out]; first | (simp [*]; done) | (simp [*]; omega)), B0.out _⟩)
def rightCl (x : Cl) : Bool := withinB x.tag (-1) 65535 && withinB x.setM (-1) 16777215 && withinB x.setT (-1) 65535 && withinB x.setP (-1) 1000000 && withinB x.prep 0 8
set_option maxRecDepth 8000 in
set_option maxHeartbeats 8000000 in
theorem rightClause_any (x : Cl) (w : World) : Calls Tryz.prog 75 #[.agg x.C] w fun e w' => e = .returned (.bool (rightCl x)) ∧ Below w.heap.size w w' := by
  have B0 := Lib.hid (fun o => (Below.refl w.heap.size w).alloc (Nat.le_refl _) o)
  have HW := Lib.hid (fun n lo hi w => within_any n lo hi w)
  obtain ⟨permit, list, tag, setM, setT, setP, prep⟩ := x
  have E : Hid (rightCl ⟨permit, list, tag, setM, setT, setP, prep⟩ = (withinB tag (-1) 65535 && withinB setM (-1) 16777215 && withinB setT (-1) 65535 && withinB setP (-1) 1000000 && withinB prep 0 8)) := Lib.hid rfl
  generalize rightCl ⟨permit, list, tag, setM, setT, setP, prep⟩ = res at E ⊢
  unfold Cl.C
  try unfold strV
  dsimp only
  cases h1 : withinB tag (-1) 65535 with
  | false =>
    go_enter Tryz.func75, Tryz.ntmps75
    go_wp2_with (go_at_call 31; refine (HW.out _ _ _ _).mono ?_; rintro e w' ⟨rfl, rfl⟩)
    all_goals (go_ret; exact ⟨ret_bool (by rw [E.out]; first | (simp [*]; done) | (simp [*]; omega)), B0.out _⟩)
  | true =>
    cases h2 : withinB setM (-1) 16777215 with
    | false =>
      go_enter Tryz.func75, Tryz.ntmps75
      go_wp2_with (go_at_call 31; refine (HW.out _ _ _ _).mono ?_; rintro e w' ⟨rfl, rfl⟩)
      all_goals (go_ret; exact ⟨ret_bool (by rw [E.out]; first | (simp [*]; done) | (simp [*]; omega)), B0.out _⟩)
    | true =>
      cases h3 : withinB setT (-1) 65535 with
      | false =>
        go_enter Tryz.func75, Tryz.ntmps75
        go_wp2_with (go_at_call 31; refine (HW.out _ _ _ _).mono ?_; rintro e w' ⟨rfl, rfl⟩)
        all_goals (go_ret; exact ⟨ret_bool (by rw [E.out]; first | (simp [*]; done) | (simp [*]; omega)), B0.out _⟩)
      | true =>
        cases h4 : withinB setP (-1) 1000000 with
        | false =>
          go_enter Tryz.func75, Tryz.ntmps75
          go_wp2_with (go_at_call 31; refine (HW.out _ _ _ _).mono ?_; rintro e w' ⟨rfl, rfl⟩)
          all_goals (go_ret; exact ⟨ret_bool (by rw [E.out]; first | (simp [*]; done) | (simp [*]; omega)), B0.out _⟩)
        | true =>
          cases h5 : withinB prep 0 8 with
          | false =>
            go_enter Tryz.func75, Tryz.ntmps75
            go_wp2_with (go_at_call 31; refine (HW.out _ _ _ _).mono ?_; rintro e w' ⟨rfl, rfl⟩)
            all_goals (go_ret; exact ⟨ret_bool (by rw [E.out]; first | (simp [*]; done) | (simp [*]; omega)), B0.out _⟩)
          | true =>
            go_enter Tryz.func75, Tryz.ntmps75
            go_wp2_with (go_at_call 31; refine (HW.out _ _ _ _).mono ?_; rintro e w' ⟨rfl, rfl⟩)
            all_goals (go_ret; exact ⟨ret_bool (by rw [E.out]; first | (simp [*]; done) | (simp [*]; omega)), B0.out _⟩)
def portsB (lo hi : Int) : Bool := decide (0 ≤ lo) && decide (lo ≤ hi) && decide (hi ≤ 65535)
set_option maxRecDepth 8000 in
theorem rightPorts_any (lo hi : Int) (w : World) : Calls Tryz.prog 105 #[.agg #[.int .i64 lo, .int .i64 hi]] w fun e w' => e = .returned (.bool (portsB lo hi)) ∧ Below w.heap.size w w' := by
  have B0 := Lib.hid (fun o => (Below.refl w.heap.size w).alloc (Nat.le_refl _) o)
  have E : Hid (portsB lo hi = (decide (0 ≤ lo) && decide (lo ≤ hi) && decide (hi ≤ 65535))) := Lib.hid rfl
  generalize portsB lo hi = res at E ⊢
  by_cases h1 : 0 ≤ lo
  · have h1d := decide_eq_true h1
    by_cases h2 : lo ≤ hi
    · have h2d := decide_eq_true h2
      by_cases h3 : hi ≤ 65535
      · have h3d := decide_eq_true h3
        go_enter Tryz.func105, Tryz.ntmps105
        go_wp2_with fail
        all_goals (go_ret; exact ⟨ret_bool (by rw [E.out]; first | (simp [*]; done) | (simp [*]; omega)), B0.out _⟩)
      · have h3d := decide_eq_false h3
        go_enter Tryz.func105, Tryz.ntmps105
        go_wp2_with fail
        all_goals (go_ret; exact ⟨ret_bool (by rw [E.out]; first | (simp [*]; done) | (simp [*]; omega)), B0.out _⟩)
    · have h2d := decide_eq_false h2
      go_enter Tryz.func105, Tryz.ntmps105
      go_wp2_with fail
      all_goals (go_ret; exact ⟨ret_bool (by rw [E.out]; first | (simp [*]; done) | (simp [*]; omega)), B0.out _⟩)
  · have h1d := decide_eq_false h1
    go_enter Tryz.func105, Tryz.ntmps105
    go_wp2_with fail
    all_goals (go_ret; exact ⟨ret_bool (by rw [E.out]; first | (simp [*]; done) | (simp [*]; omega)), B0.out _⟩)
/-- The error of a list's name and size. -/
def listE (k first : Int) (name : List UInt8) (size most : Int) : Int := if !nameB name then 3 else if first < k then 4 else if size = 0 then 1 else if most < size then 7 else 0
theorem checkList_any (k first : Int) (name : List UInt8) (size most : Int) (w : World) : Calls Tryz.prog 72 #[.int .i64 k, .int .i64 first, .string (str name), .int .i64 size, .int .i64 most] w fun e w' => e = .returned (.int .i64 (listE k first name size most)) ∧ w = w' := by
  have HN : Hid (∀ w, Calls Tryz.prog 30 #[.string (str name)] w fun e w' => e = .returned (.bool (nameB name)) ∧ w = w') := Lib.hid (fun w => by have := name_any (str name) w; rwa [bytes_str] at this)
  have E : Hid (listE k first name size most = if !nameB name then 3 else if first < k then 4 else if size = 0 then 1 else if most < size then 7 else 0) := Lib.hid rfl
  generalize listE k first name size most = res at E ⊢
  cases h1 : nameB name with
  | false =>
    go_enter Tryz.func72, Tryz.ntmps72
    go_wp2_with (go_at_call 30; refine (HN.out _).mono ?_; rintro e w' ⟨rfl, rfl⟩)
    all_goals (go_ret; exact ⟨ret_int (by rw [E.out]; first | (simp [*]; done) | (simp [*]; omega)), rfl⟩)
  | true =>
    by_cases h2 : first < k
    · have h2d := decide_eq_true h2
      go_enter Tryz.func72, Tryz.ntmps72
      go_wp2_with (go_at_call 30; refine (HN.out _).mono ?_; rintro e w' ⟨rfl, rfl⟩)
      all_goals (go_ret; exact ⟨ret_int (by rw [E.out]; first | (simp [*]; done) | (simp [*]; omega)), rfl⟩)
    · have h2d := decide_eq_false h2
      by_cases h3 : size = 0
      · subst h3
        go_enter Tryz.func72, Tryz.ntmps72
        go_wp2_with (go_at_call 30; refine (HN.out _).mono ?_; rintro e w' ⟨rfl, rfl⟩)
        all_goals (go_ret; exact ⟨ret_int (by rw [E.out]; first | (simp [*]; done) | (simp [*]; omega)), rfl⟩)
      · have h3a : (size == 0) = false := by simpa using h3
        have h3b : (size != 0) = true := by simpa using h3
        by_cases h4 : most < size
        · have h4d := decide_eq_true h4
          go_enter Tryz.func72, Tryz.ntmps72
          go_wp2_with (go_at_call 30; refine (HN.out _).mono ?_; rintro e w' ⟨rfl, rfl⟩)
          all_goals (go_ret; exact ⟨ret_int (by rw [E.out]; first | (simp [*]; done) | (simp [*]; omega)), rfl⟩)
        · have h4d := decide_eq_false h4
          go_enter Tryz.func72, Tryz.ntmps72
          go_wp2_with (go_at_call 30; refine (HN.out _).mono ?_; rintro e w' ⟨rfl, rfl⟩)
          all_goals (go_ret; exact ⟨ret_int (by rw [E.out]; first | (simp [*]; done) | (simp [*]; omega)), rfl⟩)
end Go.Proofs.YtnhemjdmleilcaaGreatDoor

/- The walk of rightRule. Condition: addresses are numbers below 2^32. -/
namespace Go.Proofs.YtnhemjdmleilcaaGreatDoor
open Go.RowKit

def allP (lo hi : Int) : Bool := decide (lo = 0 ∧ hi = 65535)
def rightRu (x : Ru) : Bool := withinB x.proto (-1) 255 && x.sa &&& x.sm == 0 && x.da &&& x.dm == 0 && portsB x.slo x.shi && portsB x.dlo x.dhi && (x.proto == 6 || x.proto == 17 || (allP x.slo x.shi && allP x.dlo x.dhi))
theorem rng_eqlP (a b : Int) (w : World) : (binOp .eql 29 (.agg #[.int .i64 a, .int .i64 b]) (.agg #[.int .i64 0, .int .i64 65535])).run Tryz.prog w = .ok (.bool (allP a b)) w := rng_eql a b 0 65535 w
set_option maxRecDepth 8000 in
set_option maxHeartbeats 8000000 in
theorem rightRule_any (x : Ru) (hx : x.fit) (w : World) : Calls Tryz.prog 77 #[.agg x.C] w fun e w' => e = .returned (.bool (rightRu x)) ∧ Below w.heap.size w w' := by
  have H0 := Lib.hid (HasC.new w 136 x.C)
  have B0 := Lib.hid ((Below.refl w.heap.size w).alloc (Nat.le_refl _) (.cells x.C 136))
  have HW := Lib.hid (fun n lo hi w => within_any n lo hi w)
  have P1 := Lib.hid (fun w => rightPorts_any x.slo x.shi w)
  have P2 := Lib.hid (fun w => rightPorts_any x.dlo x.dhi w)
  obtain ⟨f1, f2, f3, f4⟩ := hx
  have E : Hid (rightRu x = (withinB x.proto (-1) 255 && x.sa &&& x.sm == 0 && x.da &&& x.dm == 0 && portsB x.slo x.shi && portsB x.dlo x.dhi && (x.proto == 6 || x.proto == 17 || (allP x.slo x.shi && allP x.dlo x.dhi)))) := Lib.hid rfl
  obtain ⟨n1, hn1⟩ : ∃ n, x.sa &&& x.sm = n := ⟨_, rfl⟩
  obtain ⟨n2, hn2⟩ : ∃ n, x.da &&& x.dm = n := ⟨_, rfl⟩
  have b1 : bits .and .u32 (x.sa : Int) (x.sm : Int) = (n1 : Int) := by rw [← hn1]; exact u32_and_nat _ _ f1 f2
  have b2 : bits .and .u32 (x.da : Int) (x.dm : Int) = (n2 : Int) := by rw [← hn2]; exact u32_and_nat _ _ f3 f4
  rw [hn1, hn2] at E
  clear hn1 hn2 f1 f2 f3 f4
  generalize rightRu x = res at E ⊢
  unfold Ru.C at H0 B0 ⊢
  obtain ⟨permit, proto, sa, sm, da, dm, slo, shi, dlo, dhi⟩ := x
  dsimp only at *
  go_enter Tryz.func77, Tryz.ntmps77
  cases h1 : withinB proto (-1) 255 with
  | false =>
    go_wp2_with (go_at_call 31; refine (HW.out _ _ _ _).mono ?_; rintro e w' ⟨rfl, rfl⟩)
    go_ret
    exact ⟨ret_bool (by rw [E.out, h1]; rfl), B0.out⟩
  | true =>
  by_cases h2 : n1 = 0
  case neg =>
    have d1 : ((n1 : Int) != 0) = true := by simp; omega
    have d2 : (n1 == 0) = false := by simpa using h2
    go_wp2_with (go_at_call 31; refine (HW.out _ _ _ _).mono ?_; rintro e w' ⟨rfl, rfl⟩)
    go_ret
    exact ⟨ret_bool (by rw [E.out, d2]; simp), B0.out⟩
  subst h2
  by_cases h3 : n2 = 0
  case neg =>
    have d1 : ((n2 : Int) != 0) = true := by simp; omega
    have d2 : (n2 == 0) = false := by simpa using h3
    go_wp2_with (go_at_call 31; refine (HW.out _ _ _ _).mono ?_; rintro e w' ⟨rfl, rfl⟩)
    go_ret
    exact ⟨ret_bool (by rw [E.out, d2]; simp), B0.out⟩
  subst h3
  have E2 : Hid (res = (portsB slo shi && portsB dlo dhi && (proto == 6 || proto == 17 || (allP slo shi && allP dlo dhi)))) := Lib.hid (by rw [E.out, h1]; rfl)
  clear E
  go_wp2_with (first | (go_at_call 31; refine (HW.out _ _ _ _).mono ?_; rintro e w' ⟨rfl, rfl⟩))
  clear h1
  refine (P1.out _).mono ?_
  rintro e w1 ⟨rfl, hb⟩
  have H1 := Lib.hid (H0.out.keep hb)
  have B1 := Lib.hid (B0.out.trans (hb.mono (by simp)))
  clear hb H0 B0
  cases h4 : portsB slo shi with
  | false =>
    go_wp2_with fail
    go_ret
    exact ⟨ret_bool (by rw [E2.out, h4]; rfl), B1.out⟩
  | true =>
  have c8 : w1.cell? ⟨w.heap.size, 8, none⟩ = some (.int .i64 dlo) := H1.out.cell 8
  have c9 : w1.cell? ⟨w.heap.size, 9, none⟩ = some (.int .i64 dhi) := H1.out.cell 9
  go_wp2_with fail
  refine (P2.out _).mono ?_
  rintro e w2 ⟨rfl, hb⟩
  have H2 := Lib.hid (H1.out.keep hb)
  have B2 := Lib.hid (B1.out.trans (hb.mono B1.out.size))
  clear hb H1 B1 c8 c9
  cases h5 : portsB dlo dhi with
  | false =>
    go_wp2_with fail
    go_ret
    exact ⟨ret_bool (by rw [E2.out, h4, h5]; rfl), B2.out⟩
  | true =>
  have E3 : Hid (res = (proto == 6 || proto == 17 || (allP slo shi && allP dlo dhi))) := Lib.hid (by rw [E2.out, h4, h5]; rfl)
  clear E2 h4 h5
  have H3 := H2.out.keep ((Below.refl _ w2).alloc (Nat.le_refl _) (.cells #[.int .i64 0, .int .i64 65535] 29))
  have B3 := Lib.hid (B2.out.alloc B2.out.size (.cells #[.int .i64 0, .int .i64 65535] 29))
  have c1 : (w2.alloc (.cells #[.int .i64 0, .int .i64 65535] 29)).cell? ⟨w.heap.size, 1, none⟩ = some (.int .i64 proto) := H3.cell 1
  have c6 : (w2.alloc (.cells #[.int .i64 0, .int .i64 65535] 29)).cell? ⟨w.heap.size, 6, none⟩ = some (.int .i64 slo) := H3.cell 6
  have c7 : (w2.alloc (.cells #[.int .i64 0, .int .i64 65535] 29)).cell? ⟨w.heap.size, 7, none⟩ = some (.int .i64 shi) := H3.cell 7
  have c8 : (w2.alloc (.cells #[.int .i64 0, .int .i64 65535] 29)).cell? ⟨w.heap.size, 8, none⟩ = some (.int .i64 dlo) := H3.cell 8
  have c9 : (w2.alloc (.cells #[.int .i64 0, .int .i64 65535] 29)).cell? ⟨w.heap.size, 9, none⟩ = some (.int .i64 dhi) := H3.cell 9
  have g := Tryz.rngGuard
  have r1 : ∀ w, (binOp .eql 29 (.agg #[.int .i64 slo, .int .i64 shi]) (.agg #[.int .i64 0, .int .i64 65535])).run Tryz.prog w = .ok (.bool (allP slo shi)) w := fun w => rng_eqlP slo shi w
  have r2 : ∀ w, (binOp .eql 29 (.agg #[.int .i64 dlo, .int .i64 dhi]) (.agg #[.int .i64 0, .int .i64 65535])).run Tryz.prog w = .ok (.bool (allP dlo dhi)) w := fun w => rng_eqlP dlo dhi w
  clear H3 H2 B2
  by_cases h6 : proto = 6
  · subst h6
    go_wp2_with fail
    go_ret
    exact ⟨ret_bool (by rw [E3.out]; rfl), B3.out⟩
  have d6 : (proto == 6) = false := by simpa using h6
  by_cases h17 : proto = 17
  · subst h17
    go_wp2_with fail
    go_ret
    exact ⟨ret_bool (by rw [E3.out]; rfl), B3.out⟩
  have d17 : (proto == 17) = false := by simpa using h17
  cases ha : allP slo shi with
  | false =>
    rw [ha] at r1
    go_wp2_with fail
    go_ret
    exact ⟨ret_bool (by rw [E3.out, d6, d17, ha]; rfl), B3.out⟩
  | true =>
    rw [ha] at r1
    go_wp2_with fail
    go_ret
    exact ⟨ret_bool (by rw [E3.out, d6, d17, ha]; rfl), B3.out⟩
end Go.Proofs.YtnhemjdmleilcaaGreatDoor
