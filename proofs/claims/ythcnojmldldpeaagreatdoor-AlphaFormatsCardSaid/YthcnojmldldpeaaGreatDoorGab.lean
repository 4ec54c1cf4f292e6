/- The error of a router does not depend on where its slices lie. No condition. -/
import Derived.Test.YthcnojmldldpeaaGreatDoorGu
import Derived.Test.YthcnojmldldpeaaGreatDoorGaa
namespace Go.Proofs.YthcnojmldldpeaaGreatDoor
open Lib (hid)
open Go.RowKit
theorem zIl{α β:Type}(f:α→β)(p:β→Bool):∀(l:List α) (i:Nat),idxF p (l.map f) i=idxF (fun x=>p (f x)) l i
 |[],_=>rfl
 |x :: r,i=>by
  rw[List.map_cons];unfold idxF;rw[zIl f p r]
theorem lsGo_map{α β:Type}(f:α→β)(name:β→List UInt8)(len:β→Nat)(inner:β→Int)(most:Int)(all:List α):∀(l:List α) (k:Nat),lsGo name len inner most (all.map f) (l.map f) k=lsGo (fun x=>name (f x)) (fun x=>len (f x)) (fun x=>inner (f x)) most all l k
 |[],_=>rfl
 |x :: r,k=>by
  rw[List.map_cons];unfold lsGo;rw[lsGo_map f name len inner most all r,zIl]
theorem lsE_map{α β:Type}(f:α→β)(name:β→List UInt8)(len:β→Nat)(inner:β→Int)(most:Int)(l:List α):lsE name len inner most (l.map f)=lsE (fun x=>name (f x)) (fun x=>len (f x)) (fun x=>inner (f x)) most l:=by
 unfold lsE;rw[lsGo_map];simp only[List.length_map]
def erP(x:PList):PList:=⟨x.name,.slice none 0 0,x.rules⟩
def erM(x:RMap):RMap:=⟨x.name,.slice none 0 0,x.clauses⟩
def erA(x:AList):AList:=⟨x.name,.slice none 0 0,x.rules⟩
theorem idxP(n:List UInt8)(l:List PList):idxF (fun y=>y.name==n) (l.map erP) 0=idxF (fun y=>y.name==n) l 0:=by rw[zIl];rfl
theorem idxM(n:List UInt8)(l:List RMap):idxF (fun y=>y.name==n) (l.map erM) 0=idxF (fun y=>y.name==n) l 0:=by rw[zIl];rfl
theorem idxA(n:List UInt8)(l:List AList):idxF (fun y=>y.name==n) (l.map erA) 0=idxF (fun y=>y.name==n) l 0:=by rw[zIl];rfl
theorem clE_er(l:List PList):clE (l.map erP)=clE l:=by funext c;unfold clE;rw[idxP]
theorem routerE_plain(r:Rt):zBp r.plain=zBp r:=by
 have hP:r.plain.lists=r.lists.map erP:=rfl;have hM:r.plain.maps=r.maps.map erM:=rfl;have hA:r.plain.acls=r.acls.map erA:=rfl;have e1:plsE r.plain.lists=plsE r.lists:=by rw[hP];unfold plsE;rw[lsE_map];rfl
 have e2:mapsE r.plain.lists r.plain.maps=mapsE r.lists r.maps:=by rw[hP,hM];unfold mapsE;rw[lsE_map,clE_er];rfl
 have e3:aclsE r.plain.acls=aclsE r.acls:=by rw[hA];unfold aclsE;rw[lsE_map];rfl
 have n1:natE (r.acls.map erA)=natE r.acls:=by funext x;unfold natE;rw[idxA]
 have e4:natsE r.plain.acls r.plain.nat=natsE r.acls r.nat:=by rw[hA];unfold natsE;rw[n1];rfl
 have n2:filtE (r.acls.map erA)=filtE r.acls:=by funext x;unfold filtE zAu;rw[idxA,idxA]
 have e5:zAl (filtE r.plain.acls) r.plain.ifs=zAl (filtE r.acls) r.ifs:=by rw[hA,n2];rfl
 have n3:∀i m q t,redE (r.maps.map erM) i m q t=redE r.maps i m q t:=fun i m q t=>by
  funext l
  unfold redE
  congr 1
  funext x
  unfold redF zAu;rw[idxM]
 have e6:lnkE r.plain=lnkE r:=by unfold lnkE;rw[hM,n3];rfl
 have n4:dnF r.plain=dnF r:=by unfold dnF zAu;rw[hP,idxP,idxP];rfl
 have e7:dvE r.plain=dvE r:=by unfold dvE;rw[hM,n3,n4];rfl
 have n5:nbsE (r.maps.map erM) r.plain.nb=nbsE r.maps r.nb:=by
  unfold nbsE;have n6:nbF (r.maps.map erM)=nbF r.maps:=by funext x;unfold nbF zAu;rw[idxM,idxM]
  rw[n6];rfl
 have e8:pvE r.plain=pvE r:=by unfold pvE;rw[hM,n3,n5];rfl
 unfold zBp secsE;rw[e1,e2,e3,e4,e5,e6,e7,e8];rfl
end Go.Proofs.YthcnojmldldpeaaGreatDoor
