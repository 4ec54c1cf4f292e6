/- The walk of the statement AlphaFormats. Conditions: Go's own tables lie in memory (EnvA), the router lies in memory, addresses are numbers below 2^32. -/
import Derived.Test.YthcnojmldldpeaaGreatDoorGab
import Derived.Test.YthcnojmldldpeaaGreatDoorGar
import Derived.Test.YthcnojmldldpeaaGreatDoorGas
set_option maxRecDepth 8000
namespace Go.Proofs.YthcnojmldldpeaaGreatDoor
open Lib (hid)
open Go.RowKit
def rtN:Rt:={ name:=[],asn:=0,ifsV:=.slice none 0 0,listsV:=.slice none 0 0,mapsV:=.slice none 0 0,aclsV:=.slice none 0 0,natV:=.slice none 0 0,statV:=.slice none 0 0,lsOn:=false,lsAdmin:=0,rangesV:=.slice none 0 0,lsRedV:=.slice none 0 0,dvOn:=false,dvAdmin:=0,dvIn:=[],dvOut:=[],dvRedV:=.slice none 0 0,pvOn:=false,ext:=0,int:=0,nbV:=.slice none 0 0,netV:=.slice none 0 0,agV:=.slice none 0 0,cdV:=.slice none 0 0,pvRedV:=.slice none 0 0,ifs:=[],lists:=[],maps:=[],acls:=[],nat:=[],stat:=[],ranges:=[],lsRed:=[],dvRed:=[],nb:=[],net:=[],ag:=[],cd:=[],pvRed:=[] }
set_option maxHeartbeats 8000000 in
theorem zJi(r:Rt)(w:World)(B:Nat)(hB:B≤w.heap.size)(h:r.at w B)(hf:r.fit)(he:EnvA w.heap.size w):Calls Tryz.prog 3 #[.agg r.C] w fun e w' => e=.returned (.bool true)∧Below w.heap.size w w' := by
 have HSN:=hid (fun(W:World) (hW:Below w.heap.size w W)=>sane_easy zBp zHa (fun r (h:r.plain=alRt saneA)=>by rw[←routerE_plain,h];kernel_rfl) W ((he.keep hW).up hW.size));have HE:=hid (fun(W:World) (hW:Below w.heap.size w W)=>(he.keep hW).up hW.size);have HBB:=hid hB;have HR:=hid h;have HF:=hid hf;have H1:=hid (RB.start r w);clear he h hf hB;go_enter Tryz.func3,Tryz.ntmps3;go_wp2_with (refine zAa rfl 41 _ rfl rfl H1.out.h.range Tryz.rowRt Tryz.sizeRt ?_);refine(small_any r _ B (Nat.le_trans HBB.out H1.out.b.size) (HR.out.below (H1.out.b.mono HBB.out))).mono ?_;rintro e w2 ⟨he2,hb⟩;have H2:=hid (H1.out.keep hb);clear hb H1;rcases he2 with rfl|⟨rfl,hps⟩
 case inl=>
  go_wp2;go_ret;exact⟨rfl,H2.out.b⟩
 obtain⟨F,hF⟩:∃F,zHu zBp r=F:=⟨_,rfl⟩;have a1:=aformat_walk r w2 B (HR.out.below (H2.out.b.mono HBB.out)) (Nat.le_trans HBB.out H2.out.b.size) HF.out (HE.out w2 H2.out.b);rw[hF]at a1;have HFW:=hid a1;clear a1;go_wp2_with (refine zAa rfl 41 _ rfl rfl H2.out.h.range Tryz.rowRt Tryz.sizeRt ?_);refine HFW.out.mono ?_;rintro e w3 ⟨rfl,hb⟩;have H3:=hid (H2.out.keep hb);clear hb HFW H2;have a1:=raformat_walk r w3 B (HR.out.below (H3.out.b.mono HBB.out)) (Nat.le_trans HBB.out H3.out.b.size) HF.out hps;rw[hF]at a1;have HFX:=hid a1;clear a1;go_wp2_with (refine zAa rfl 41 _ rfl rfl H3.out.h.range Tryz.rowRt Tryz.sizeRt ?_);refine HFX.out.mono ?_;rintro e w4 ⟨rfl,hb⟩;have H4:=hid (H3.out.keep hb);clear hb HFX H3 hps hF;obtain⟨x,n⟩:=F;have q0:((str x).toList==(str x).toList)=true:=beq_self_eq_true _;go_wp2_with fail;refine(HSN.out w4 H4.out.b).mono ?_;rintro e w5 ⟨rfl,hb⟩;have H5:=hid (H4.out.keep hb);clear hb;go_wp2;go_ret;exact⟨rfl,H5.out.b⟩
theorem zJc(r:Rt)(w:World)(he:EnvA w.heap.size w)(h:r.at w w.heap.size)(hf:r.fit):Calls Tryz.prog 3 #[.agg r.C] w fun e w' => e=.returned (.bool true)∧Below w.heap.size w w' := zJi r w _ (Nat.le_refl _) h hf he
end Go.Proofs.YthcnojmldldpeaaGreatDoor
