/- The walk of the statement BetaRoundTrip. Conditions: Go's own tables lie in memory (EnvA), the router lies in memory, addresses are numbers below 2^32. -/
import Derived.Test.YtdlgnhefpoalnaaGreatDoorHai
import Derived.Test.YtdlgnhefpoalnaaGreatDoorHap
import Derived.Test.YtdlgnhefpoalnaaGreatDoorHaq
import Derived.Test.YtdlgnhefpoalnaaGreatDoorHas
import Derived.Test.YtdlgnhefpoalnaaGreatDoorHat
set_option maxRecDepth 8000
namespace Go.Proofs.YtdlgnhefpoalnaaGreatDoor
open Lib (hid)
open Go.RowKit
set_option maxHeartbeats 8000000 in
theorem zLz(r:Rt)(w:World)(B:Nat)(hB:B≤w.heap.size)(h:r.at w B)(hf:r.fit)(he:EnvA w.heap.size w):Calls Tryz.prog 5 #[.agg r.C] w fun e w' => e=.returned (.bool true)∧Below w.heap.size w w' := by
 have HSN:=hid (fun(W:World) (hW:Below w.heap.size w W)=>sane_gen zBl zJr (by kernel_rfl) W ((he.keep hW).up hW.size));have HP:=hid (fun(T:ByteArray) (W:World) (hW:Below w.heap.size w W)=>zJr T W ((he.keep hW).up hW.size));have HE:=hid (fun(W:World) (hW:Below w.heap.size w W)=>(he.keep hW).up hW.size);have HBB:=hid hB;have HR:=hid h;have HF:=hid hf;have H1:=hid (RB.start r w);clear he h hf hB;go_enter Tryz.func5,Tryz.ntmps5;go_wp2_with (refine zAa rfl 41 _ rfl rfl H1.out.h.range Tryz.rowRt Tryz.sizeRt ?_);refine(small_any r _ B (Nat.le_trans HBB.out H1.out.b.size) (HR.out.below (H1.out.b.mono HBB.out))).mono ?_;rintro e w2 ⟨he2,hb⟩;have H2:=hid (H1.out.keep hb);clear hb H1;rcases he2 with rfl|⟨rfl,hps⟩
 case inl=>
  go_wp2;go_ret;exact⟨rfl,H2.out.b⟩
 go_wp2_with (first|(refine zAa rfl 41 _ rfl rfl H2.out.h.range Tryz.rowRt Tryz.sizeRt ?_)|(refine zAh (by rfl) (zAa rfl 41 _ rfl rfl H2.out.h.range Tryz.rowRt Tryz.sizeRt ?_)));refine(rcheck_all r _ B (Nat.le_trans HBB.out H2.out.b.size) (HR.out.below (H2.out.b.mono HBB.out)) HF.out hps).mono ?_;rintro e w3 ⟨rfl,hb⟩;have H3:=hid (H2.out.keep hb);clear hb H2 hps;obtain⟨E,hE⟩:∃E,zBl r=E:=⟨_,rfl⟩;rw[hE];by_cases h0:E=0;case neg=>
  have d0:(E != 0)=true:=by simpa using h0
  clear hE h0;go_wp2;go_ret;exact⟨rfl,H3.out.b⟩
 subst h0;have HV:=hid hE;clear hE;have HFW:=hid (format_walk r w3 B (HR.out.below (H3.out.b.mono HBB.out)) (Nat.le_trans HBB.out H3.out.b.size) HF.out (HE.out w3 H3.out.b));go_wp2_with (refine zAa rfl 41 _ rfl rfl H3.out.h.range Tryz.rowRt Tryz.sizeRt ?_);refine HFW.out.mono ?_;rintro e w4 ⟨he4,hb⟩;have H4:=hid (H3.out.keep hb);clear hb HFW H3;obtain⟨F,hF⟩:∃F,F=formatB zBl r:=⟨_,rfl⟩;rw[←hF]at he4;have HFF:=hid hF;clear hF;by_cases hl:65536<(textL 0 (fmtN r)).length;case pos=>
  have E:F=([],7):=HFF.out.trans ((if_pos HV.out).trans (if_pos hl));subst E;subst he4;clear hl;go_wp2_with fail;refine(HSN.out w4 H4.out.b).mono ?_;rintro e w5 ⟨rfl,hb⟩;have H5:=hid (H4.out.keep hb);clear hb;go_wp2;go_ret;exact⟨rfl,H5.out.b⟩
 have E:F=(textL 0 (fmtN r),0):=HFF.out.trans ((if_pos HV.out).trans (if_neg hl));subst E;subst he4;have PT:=hid (parse_text HV.out HF.out (by omega));have LT:=hid (zJk (zJq HV.out HF.out).1 0);clear HFF;generalize (zEm 0 (fmtN r))=ls at PT LT;generalize textL 0 (fmtN r)=t at *
 have hln:ls.length≤65537:=by
  have:=zKz (str t);rw[zAt,LT.out.1,zAv]at this;omega
 have hle:zAu t=0:=by rw[zAu,if_neg (by omega),LT.out.2.1];rfl
 have hlr:zEb t=ls:=by rw[zEb,if_pos hle,LT.out.1]
 have HL:=hid (fun W=>zNj (str t) W 0 ls (by rw[zAt];exact hle) (by rw[zAt];exact hlr));clear hl LT HV hle hlr;go_wp2_with fail;refine(HP.out (str t) w4 H4.out.b).mono ?_;rintro e w5 ⟨hb,x,hpx,he5,hat,-,-⟩;rw[zAt,PT.out]at hpx he5;dsimp only at hpx he5;subst he5;have HA5:=hid (hat [] w5 (fun _ h=>by cases h) (Fr.refl _ _));have H5:=hid (H4.out.keep hb);have HPX:=hid hpx;clear hb hat hpx PT H4;go_upto_region 7 with(refine zAd rfl 41 _ _ rfl rfl (ds:=x.C) rfl (HasC.new _ _ _) rfl Tryz.sizeRt HA5.out.one ?_;intro w6 hz1 hz2)
 have HB6:=hid (zAi hz2);have H6:=hid (H5.out.keep HB6.out);have X6:=hid hz1;have HA6:=hid ((HA5.out.below HB6.out).lift HB6.out.size);clear hz1 hz2 HA5 HB6 H5;generalize hgr:w5.heap.size=gx at X6⊢;clear hgr;go_wp2_with fail;refine(HL.out w6).mono ?_;rintro e w7 ⟨v7,rfl,ho,hb⟩;obtain⟨A,c,ev⟩:=slc_form (Slc.of_own ho);subst ev;have H7:=hid (H6.out.keep hb);have X7:=hid (X6.out.keep hb);have HA7:=hid ((HA6.out.below hb).lift hb.size);have HAR:=hid ((HR.out.below (H7.out.b.mono HBB.out)).lift (Nat.le_trans HBB.out H7.out.b.size));have HSM:=hid (same_any x r w7 w7.heap.size HA7.out HAR.out (Nat.le_refl _) HPX.out);clear ho hb H6 X6 HA6 HA7 HAR HL HPX;go_wp2_with (first|(refine zAh (by rfl) (zAa rfl 41 _ rfl rfl X7.out.range Tryz.rowRt Tryz.sizeRt ?_))|(refine zAh (by rfl) (zAa rfl 41 _ rfl rfl H7.out.h.range Tryz.rowRt Tryz.sizeRt ?_)));refine HSM.out.mono ?_;rintro e w8 ⟨rfl,hb⟩;have H8:=hid (H7.out.keep hb);clear hb HSM X7 H7;go_wp2_with fail;refine(HSN.out w8 H8.out.b).mono ?_;rintro e w9 ⟨rfl,hb⟩;have H9:=hid (H8.out.keep hb);clear hb;go_wp2;go_ret;exact⟨rfl,H9.out.b⟩
theorem zMd(r:Rt)(w:World)(he:EnvA w.heap.size w)(h:r.at w w.heap.size)(hf:r.fit):Calls Tryz.prog 5 #[.agg r.C] w fun e w' => e=.returned (.bool true)∧Below w.heap.size w w' := zLz r w _ (Nat.le_refl _) h hf he
end Go.Proofs.YtdlgnhefpoalnaaGreatDoor
