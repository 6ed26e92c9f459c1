/- Part of the proof of the claim: walks and plain laws; each theorem states its own conditions. -/
import Derived.Test.YtopcdfbplknmlaaGreatL
import Derived.Test.YtopcdfbplknmlaaGreatG19
set_option linter.all false
set_option maxHeartbeats 8000000
set_option maxRecDepth 100000
namespace Go.Proofs.YtopcdfbplknmlaaGreat
open Go.RowKit Go.Draw
theorem xy{N b:Nat}{S:List Nat}{w w':World}(h:But [b] w w')(hb:b∈S):Bel N S w w':=
 ⟨h.os,h.tape,h.output,h.size,fun hN k hk hs=>h.block k (by omega) (fun hm=>hs (by rw[List.mem_singleton.1 hm];exact hb))⟩
theorem zja(w:World)(b:Nat)(e v:Int):But [b] w (w.setCells b 0 [.int .i64 e,.int .u64 v]):=But.setCell (But.setCell (But.refl _ _) (by simp) _) (by simp) _
attribute [local go_sem↓] yg xd yx in
attribute [local go_sem] xe in
theorem zni(N B:Nat)(code a b c:Int)(P:Hpl)(M:Hmm)(I:List In)(w:World)(h:HO w 0 P M)(hap:Ap P M)(hv:Hv N P B I)(hN:N<=800000)(hdead:P.dead=false)(h1:code=1->0<=a∧a<=15∧0<=b∧b<=32):
 Calls Tryz.prog 20 #[.agg (ze P M),.agg #[.int .i64 code,.int .i64 a,.int .i64 b,.int .i64 c]] w (zdg w (N+257) B P.C):=by
 have Hv0:=Lib.hid hv;have Hul:=Lib.hid hv.vh.rt.1;have Hrl:=Lib.hid hv.vh.rt.2.1;have Hrok:=Lib.hid hv.vh.rok;have Hg:=Lib.hid hv.gd;have Hap:=Lib.hid hap;have H1:=Lib.hid h1;clear hv hap h1;go_enter Tryz.func20,Tryz.ntmps20;go_upto_region 1 with fail;refine zpg (fun W k2 k3 k4 k5 hE=> ?_);obtain⟨b2,hb2⟩: ∃b,w.heap.size=b:=⟨_,rfl⟩;rw[hb2]at k2 k3 k4 k5|-;have Hb2:=Lib.hid hb2;clear hb2;have c3:=k3.cell;have l3:=k3.lt;have hO:=h.ext hE;have r21:W.cell? ⟨b2,21,none⟩=some (.bool false):=by have:=k2.cell 21;rw[this,<-hdead];rfl
 have l2:=k2.lt;clear h;by_cases hc:1<=code∧code<=10
 case neg=>
  by_cases h1:code<1
  ·have q0:decide (code<1)=true:=decide_eq_true h1
   clear h1 hc;have hlc:=zj k2 (za P M);have hno:=xZ (ze P M) (za _ _) (zg _ _) 20 W;go_wp2_with fail;go_at_call 31;refine hno.mono ?_;rintro e9 w9 ⟨rfl,hE9⟩;clear hlc hno;obtain⟨hst,hst2⟩:=yh (xs:=ze P M) (k4.ext hE9) rfl (k5.ext hE9) rfl (za _ _) (zg _ _) (by omega) 20 0;have hb2:=Hb2.out;go_wp2_with fail;exact y9 (hO.ext hE9) Hap.out ⟨I,Hv0.out.wide (by omega)⟩ rfl (fun _=>hdead) (hE.trans hE9) (k4.ext hE9) (k5.ext hE9) (by omega) (by omega) rfl rfl rfl
  ·have q0:decide (code<1)=false:=decide_eq_false h1
   have q1:decide (10<code)=true:=decide_eq_true (by omega);clear h1 hc;have hlc:=zj k2 (za P M);have hno:=xZ (ze P M) (za _ _) (zg _ _) 20 W;go_wp2_with fail;go_at_call 31;refine hno.mono ?_;rintro e9 w9 ⟨rfl,hE9⟩;clear hlc hno;obtain⟨hst,hst2⟩:=yh (xs:=ze P M) (k4.ext hE9) rfl (k5.ext hE9) rfl (za _ _) (zg _ _) (by omega) 20 0;have hb2:=Hb2.out;go_wp2_with fail;exact y9 (hO.ext hE9) Hap.out ⟨I,Hv0.out.wide (by omega)⟩ rfl (fun _=>hdead) (hE.trans hE9) (k4.ext hE9) (k5.ext hE9) (by omega) (by omega) rfl rfl rfl
 case pos=>
  have q0:decide (code<1)=false:=decide_eq_false (by omega);have q1:decide (10<code)=false:=decide_eq_false (by omega);go_upto_region 8 with fail;clear q0 q1 r21;by_cases c1:code=1
  ·subst c1
   obtain⟨hr0,hr15,hd0,hd32⟩:=H1.out rfl;obtain⟨r,rfl⟩: ∃r:Nat,a=(r:Int):=⟨a.toNat,by omega⟩;obtain⟨d,rfl⟩: ∃d:Nat,b=(d:Int):=⟨b.toNat,by omega⟩;have hlc:=zj k2 (za P M);have hal:=zgc N B r d 1 c P M I W hO Hap.out Hv0.out hN hdead (by omega) (by omega);go_wp2_with fail;go_at_call 32;refine hal.mono ?_;rintro e9 w9 ⟨P',M',e,v,rfl,hO',hap',hv',hC',hde',hE9⟩;clear hlc hal;obtain⟨hst,hst2⟩:=yh (xs:=ze P' M') (k4.ext hE9) rfl (k5.ext hE9) rfl (za _ _) (zg _ _) (by omega) e v;have hb2:=Hb2.out;go_wp2_with fail;exact y9 hO' hap' hv' hC' hde' (hE.trans hE9) (k4.ext hE9) (k5.ext hE9) (by omega) (by omega) rfl rfl rfl
  by_cases c8:code=8
  ·subst c8
   clear c1;have hlc:=zj k2 (za P M);have hcl:=zf5 N B P M I W hO Hv0.out (by omega) hdead;go_wp2_with fail;go_at_call 33;refine hcl.mono ?_;rintro e9 w3 ⟨P',M',bb,rfl,hH,hde'⟩;clear hlc hcl;have hst:=fun zs hz=>zT w3 zs (ze P' M') hz (za P' M') (zg P' M')
   have hsz:=za P' M';have hE3:=hH.ex;have hlt:=(k5.ext hE3).lt;go_upto_region 12 with fail;clear hst hsz;refine yN (fun W4 k8 hE4=> ?_);obtain⟨b8,hb8⟩: ∃b,w3.heap.size=b:=⟨_,rfl⟩;rw[hb8]at k8 hlt|-;clear hb8;replace k4:=(k4.ext hE3).ext hE4;replace k5:=(k5.ext hE3).ext hE4;have hE34:=(hE.trans hE3).trans hE4;have hO4:=hH.ho.ext hE4;have hv5: ∃I',Hv (N+257) P' B I':=by obtain⟨I',hI'⟩:=hH.hv;exact⟨I',hI'.wide (by omega)⟩
   have Hv5:=Lib.hid hv5;have Hd5:=Lib.hid (show P'.dead=false by rw[hde'];exact hdead);clear hv5 c3 l3 l2 k2 k3;have hlc:=zj k8 (za P' M');have hno:=qX (ze P' M') (za _ _) (zg _ _) 0 W4;go_wp2_with fail;go_at_call 34;refine hno.mono ?_;rintro e9 w9 ⟨rfl,hE9⟩;clear hlc hno;obtain⟨hst,hst2⟩:=yh (xs:=ze P' M') (k4.ext hE9) rfl (k5.ext hE9) rfl (za _ _) (zg _ _) (by omega) 0 0;have hb2:=Hb2.out;go_wp2_with fail;exact y9 (hO4.ext hE9) hH.ap Hv5.out hH.cf (fun _=>Hd5.out) (hE34.trans hE9) (k4.ext hE9) (k5.ext hE9) (by omega) (by omega) rfl rfl rfl
  by_cases c10:code=10
  ·subst c10
   clear c1 c8;have hne54:b2+1+1+1≠b2+1+1:=by omega
   have hld:=jy (N:=W.heap.size) (S:= [b2+1+1,b2+1+1+1]) k2.drew (za P M) l2 (by simp;omega);go_upto_region 14 with fail;refine zn (W.heap.size) [b2+1+1,b2+1+1+1] (.take 0 (.take 1 (.alt 2 (.take 3 (.alt 4 (.take 5 (.take 6 (.alt 7 (.alt 8 .done .none) .none))) .none)) .none))) Tryz.mixed (by kernel_rfl) ?_;intro hx;iterate 2 (first|refine jTN hx ?_ (hv:=by intro _ hc;have hcl:=hld _ hc;go_simp;(try go_ints);exact rfl)|refine jTS ?_)
   refine jCN hx (fun K hK=> ?_);go_simp;go_at_call 35;refine(zps P M _ (hO.ext jX) Hg.out).mono ?_;rintro e w1 ⟨⟨z,rfl⟩,hEa⟩
   skip
   refine hK _ _ ((hEa).bel _) ?_;clear hK hx;intro hx;refine jp ?_;first|refine jTN hx ?_ (hv:=by intro _ hc;have hcl:=hld _ hc;go_simp;(try go_ints);exact rfl)|refine jTS ?_
   refine jCN hx (fun K hK=> ?_);go_simp;go_at_call 34;refine(qX (ze P M) (za _ _) (zg _ _) _ _).mono ?_;rintro e w1 ⟨rfl,hEb⟩;have hst:=zO (k4.ext (show Ext W w1 by exact jX)) rfl (za P M) (zg P M);have hst2:=fun v=>(yh (xs:=ze P M) (k4.ext (show Ext W w1 by exact jX)) rfl (k5.ext (show Ext W w1 by exact jX)) rfl (za _ _) (zg _ _) hne54 0 v).2;have hsz:=za P M
   refine hK _ _ ((hEb).bel _) ?_;clear hK hx;intro hx;refine jp ?_;iterate 2 (first|refine jTN hx ?_ (hv:=by intro _ hc;have hcl:=hld _ hc;go_simp;(try go_ints);exact rfl)|refine jTS ?_)
   refine yl hx (fun K hK=> ?_)
   skip
   go_simp;refine hK _ ((xy (zD _ _ _) (by simp))) ?_;clear hK hx;intro hx;refine yl hx (fun K hK=> ?_)
   skip
   go_simp;refine hK _ ((xy (zja _ _ _ _) (by simp))) ?_;clear hK hx;intro hx;refine zi ?_;have hb2:=Hb2.out;go_wp2_with fail;exact y9 (hO.ext jX) Hap.out ⟨I,Hv0.out.wide (by omega)⟩ rfl (fun _=>hdead) (hE.trans jX) (k4.ext jX) (k5.ext jX) (by omega) (by omega) rfl rfl rfl
  by_cases c6:code=6
  ·subst c6
   clear c1 c8 c10;have hlc:=zj k2 (za P M);have hha:=ya P M a false W hO Hul.out;go_wp2_with fail;go_at_call 36;refine hha.mono ?_;rintro e w2 ⟨e9,rfl,hok,hE2⟩;clear hlc hha c3 l3;replace hE:=hE.trans hE2;replace hO:=hO.ext hE2;replace k2:=k2.ext hE2;replace k3:=k3.ext hE2;replace k4:=k4.ext hE2;replace k5:=k5.ext hE2;rcases hok with⟨rfl,hc1⟩|rfl|rfl
   ·have hlc:=zj k2 (za P M)
    have c3:=k3.cell;have l3:=k3.lt;have hha:=ya P M b false w2 hO Hul.out;have Hc1:=Lib.hid hc1;clear hc1;go_wp2_with fail;go_at_call 36;refine hha.mono ?_;rintro e w3 ⟨e10,rfl,hok2,hE3⟩;clear hlc hha c3 l3;replace hE:=hE.trans hE3;replace hO:=hO.ext hE3;replace k2:=k2.ext hE3;replace k3:=k3.ext hE3;replace k4:=k4.ext hE3;replace k5:=k5.ext hE3;rcases hok2 with⟨rfl,hc2⟩|rfl|rfl
    ·obtain⟨va,_,hwa⟩:=zhr (M:=M) Hv0.out (c:=a) (Hc1.out.imp (fun h=>h.2) id)
     obtain⟨vb,_,hwb⟩:=zhr (M:=M) Hv0.out (c:=b) (hc2.imp (fun h=>h.2) id);have Hwa:=Lib.hid hwa;have Hwb:=Lib.hid hwb;have hne54:b2+1+1+1≠b2+1+1:=by omega
     have l2:=k2.lt;have hld:=jy (N:=w3.heap.size) (S:= [b2+1+1,b2+1+1+1]) k2.drew (za P M) l2 (by simp;omega);have c3:=k3.cell;have l3:=k3.lt;clear hwa hwb hc2;go_upto_region 22 with fail;refine zn (w3.heap.size) [b2+1+1,b2+1+1+1] (.take 0 (.take 1 (.take 2 (.take 3 (.take 5 (.take 6 (.take 7 (.alt 4 (.alt 8 (.take 9 (.alt 10 (.alt 11 (.take 12 (.take 13 (.alt 14 (.alt 15 .done .none) .none))) .none) .none)) .none) .none)))))))) Tryz.mixed (by kernel_rfl) ?_;intro hx;iterate 7 (first|refine jTN hx ?_ (hv:=by intro _ hc;have hcl:=hld _ hc;go_simp;(try go_ints);exact rfl)|refine jTS ?_)
     refine jCN hx (fun K hK=> ?_);go_simp;go_at_call 38;refine(Hwa.out _ (hO.ext jX)).mono ?_;rintro e w1 ⟨rfl,hEa⟩
     skip
     refine hK _ _ ((hEa).bel _) ?_;clear hK hx;intro hx;refine jp ?_;refine jCN hx (fun K hK=> ?_);go_simp;go_at_call 38;refine(Hwb.out _ (hO.ext jX)).mono ?_;rintro e w1 ⟨rfl,hEb⟩
     skip
     refine hK _ _ ((hEb).bel _) ?_;clear hK hx;intro hx;refine jp ?_;first|refine jTN hx ?_ (hv:=by intro _ hc;have hcl:=hld _ hc;go_simp;(try go_ints);exact rfl)|refine jTS ?_
     refine jCN hx (fun K hK=> ?_);go_simp;go_at_call 37;refine(zks _ _).mono ?_;rintro e w1 ⟨⟨vz,rfl⟩,rfl⟩
     skip
     refine hK _ _ ((Ext.refl _).bel _) ?_;clear hK hx;intro hx;refine jp ?_;refine jCN hx (fun K hK=> ?_);go_simp;go_at_call 34;refine(qX (ze P M) (za _ _) (zg _ _) _ _).mono ?_;rintro e w1 ⟨rfl,hEd⟩;have hst:=zO (k4.ext (show Ext w3 w1 by exact jX)) rfl (za P M) (zg P M);have hst2:=fun v=>(yh (xs:=ze P M) (k4.ext (show Ext w3 w1 by exact jX)) rfl (k5.ext (show Ext w3 w1 by exact jX)) rfl (za _ _) (zg _ _) hne54 0 v).2;have hsz:=za P M
     refine hK _ _ ((hEd).bel _) ?_;clear hK hx;intro hx;refine jp ?_;iterate 2 (first|refine jTN hx ?_ (hv:=by intro _ hc;have hcl:=hld _ hc;go_simp;(try go_ints);exact rfl)|refine jTS ?_)
     refine yl hx (fun K hK=> ?_)
     skip
     go_simp;refine hK _ ((xy (zD _ _ _) (by simp))) ?_;clear hK hx;intro hx;refine yl hx (fun K hK=> ?_)
     skip
     go_simp;refine hK _ ((xy (zja _ _ _ _) (by simp))) ?_;clear hK hx;intro hx;refine zi ?_;have hb2:=Hb2.out;go_wp2_with fail;exact y9 (hO.ext jX) Hap.out ⟨I,Hv0.out.wide (by omega)⟩ rfl (fun _=>hdead) (hE.trans jX) (k4.ext jX) (k5.ext jX) (by omega) (by omega) rfl rfl rfl
    ·skip
     have hlc:=zj k2 (za P M);have hno:=xZ (ze P M) (za _ _) (zg _ _) 14 w3;go_wp2_with fail;go_at_call 31;refine hno.mono ?_;rintro e9 w9 ⟨rfl,hE9⟩;clear hlc hno;obtain⟨hst,hst2⟩:=yh (xs:=ze P M) (k4.ext hE9) rfl (k5.ext hE9) rfl (za _ _) (zg _ _) (by omega) 14 0;have hb2:=Hb2.out;go_wp2_with fail;exact y9 (hO.ext hE9) Hap.out ⟨I,Hv0.out.wide (by omega)⟩ rfl (fun _=>hdead) (hE.trans hE9) (k4.ext hE9) (k5.ext hE9) (by omega) (by omega) rfl rfl rfl
    ·skip
     have hlc:=zj k2 (za P M);have hno:=xZ (ze P M) (za _ _) (zg _ _) 16 w3;go_wp2_with fail;go_at_call 31;refine hno.mono ?_;rintro e9 w9 ⟨rfl,hE9⟩;clear hlc hno;obtain⟨hst,hst2⟩:=yh (xs:=ze P M) (k4.ext hE9) rfl (k5.ext hE9) rfl (za _ _) (zg _ _) (by omega) 16 0;have hb2:=Hb2.out;go_wp2_with fail;exact y9 (hO.ext hE9) Hap.out ⟨I,Hv0.out.wide (by omega)⟩ rfl (fun _=>hdead) (hE.trans hE9) (k4.ext hE9) (k5.ext hE9) (by omega) (by omega) rfl rfl rfl
   ·skip
    have hlc:=zj k2 (za P M);have hno:=xZ (ze P M) (za _ _) (zg _ _) 14 w2;go_wp2_with fail;go_at_call 31;refine hno.mono ?_;rintro e9 w9 ⟨rfl,hE9⟩;clear hlc hno;obtain⟨hst,hst2⟩:=yh (xs:=ze P M) (k4.ext hE9) rfl (k5.ext hE9) rfl (za _ _) (zg _ _) (by omega) 14 0;have hb2:=Hb2.out;go_wp2_with fail;exact y9 (hO.ext hE9) Hap.out ⟨I,Hv0.out.wide (by omega)⟩ rfl (fun _=>hdead) (hE.trans hE9) (k4.ext hE9) (k5.ext hE9) (by omega) (by omega) rfl rfl rfl
   ·skip
    have hlc:=zj k2 (za P M);have hno:=xZ (ze P M) (za _ _) (zg _ _) 16 w2;go_wp2_with fail;go_at_call 31;refine hno.mono ?_;rintro e9 w9 ⟨rfl,hE9⟩;clear hlc hno;obtain⟨hst,hst2⟩:=yh (xs:=ze P M) (k4.ext hE9) rfl (k5.ext hE9) rfl (za _ _) (zg _ _) (by omega) 16 0;have hb2:=Hb2.out;go_wp2_with fail;exact y9 (hO.ext hE9) Hap.out ⟨I,Hv0.out.wide (by omega)⟩ rfl (fun _=>hdead) (hE.trans hE9) (k4.ext hE9) (k5.ext hE9) (by omega) (by omega) rfl rfl rfl
  have q1:(code==1)=false:=by simpa using c1
  have q8:(code==8)=false:=by simpa using c8
  have q10:(code==10)=false:=by simpa using c10
  have q6:(code==6)=false:=by simpa using c6
  have Hcs:=Lib.hid (show code=2∨code=3∨code=4∨code=5∨code=7∨code=9 by omega);clear c1 c8 c10 c6 hc;have hlc:=zj k2 (za P M);have hha:=ya P M a true W hO Hul.out;go_wp2_with fail;go_at_call 36;refine hha.mono ?_;rintro e w2 ⟨e11,rfl,hok,hE2⟩;clear hlc hha c3 l3 l2;replace hE:=hE.trans hE2;replace hO:=hO.ext hE2;replace k2:=k2.ext hE2;replace k3:=k3.ext hE2;replace k4:=k4.ext hE2;replace k5:=k5.ext hE2;rcases hok with⟨rfl,hc1⟩|rfl|rfl
  ·obtain⟨ka,rfl,hka⟩: ∃k:Nat,a=(k:Int)+1∧P.us[k]? =some true:=by
    rcases hc1 with h|h
    ·exact absurd h.1 (by simp)
    ·exact h
   clear hc1;obtain⟨T,ob,hT,hob,hkr⟩:=Hv0.out.vh.obj hka;obtain⟨t,ht⟩: ∃t,zy T.x.c B ob.o=t:=⟨_,rfl⟩;rw[ht]at hkr
   have ht16:t<16384:=by
    obtain⟨_,_,_,_,_,hlt⟩:=Hv0.out.vh.hok.lay.owner hT hob (k:=0) (by unfold Ob.n;omega);rw[yn (b:=ob) (k:=0) (by unfold Ob.n;omega),Nat.add_zero,ht]at hlt;have:=zav Hv0.out.vh.hok.lay.ch;omega
   have hk32:ka<32:=by
    have:=(List.getElem?_eq_some_iff.1 hka).1;have:=Hul.out;omega
   have Hk:=Lib.hid Hv0.out.vh.hok;have Hhh:=Lib.hid (kE Hv0.out.vh.hok hT hob);have HT:=Lib.hid hT;have Hka:=Lib.hid hkr;have Hkb:=Lib.hid hka;have Ht:=Lib.hid ht;clear hT hob hkr hka ht;have c3:=k3.cell;have l3:=k3.lt;have l2:=k2.lt;go_upto_region 27 with fail;rcases Hcs.out with rfl|rfl|rfl|rfl|rfl|rfl
   case inr.inr.inr.inr.inl=>
    have hlc:=zj k2 (za P M);go_wp2_with fail;go_at_call 39;refine(qo P M w2 hO Hg.out.sm).mono ?_;rintro e w3 ⟨M1,rfl,hO3,hE3,hap3⟩;clear hlc;have hst:=fun zs hz=>zT w3 zs (ze P M1) hz (za P M1) (zg P M1)
    have hsz:=za P M1;have hlt:=(k5.ext hE3).lt;go_upto_region 29 with fail;clear hst hsz c3 l3;refine yN (fun W4 k8 hE4=> ?_);obtain⟨b8,hb8⟩: ∃b,w3.heap.size=b:=⟨_,rfl⟩;rw[hb8]at k8 hlt|-;clear hb8;replace k3:=(k3.ext hE3).ext hE4;replace k4:=(k4.ext hE3).ext hE4;replace k5:=(k5.ext hE3).ext hE4;have hE34:=(hE.trans hE3).trans hE4;have hO4:=(hO3.ext hE4).base_ (Nat.zero_le _);have hdr:=zj3 M1.U M1.R M1.cu M1.cr ka P.us P.rs W4 hO4.ro Hrok.out Hkb.out
    have hv7: ∃I',Hv (N+257) {P with us:=P.us.set ka false,rs:=P.rs.set ka 0} B I':=by
     have hs0:=Hv0.out.s0;have hct:=Hv0.out.ct;exact⟨I,Hv0.out.vh.drop,Hv0.out.wf,Hv0.out.ok,Hv0.out.ql,Hv0.out.bt,by show 0<=P.sq∧P.sq<=((N+257:Nat):Int);omega,by show 0<=P.k.cp∧P.k.cp<=P.k.cd∧P.k.cd<=((N+257:Nat):Int)*16384;omega⟩
    have Hv7:=Lib.hid hv7;have r9:W4.cell? ⟨b8,9,none⟩=some (.slice M1.U P.us.length M1.cu):=k8.cell 9;have r10:W4.cell? ⟨b8,10,none⟩=some (.slice M1.R P.rs.length M1.cr):=k8.cell 10;have l8:=k8.lt;have c3:=k3.cell;have l3:=k3.lt;have hwb:=hE.size_le;clear hv7 hO3 hO k2 hap3;go_wp2_with fail;go_at_call 40;refine hdr.mono ?_;rintro e w5 ⟨U,cu,R,cr,rfl,hro,hE5⟩;clear hdr r9 r10 l8 c3 l3;have k8a:=k8.ext hE5;have l8:=k8a.lt;have hst:=yE k8a 9 [.slice U P.us.length cu,.slice R P.rs.length cr] (by rw[za];simp) (by simp[Value.oneCell']);go_upto_region 30 with fail;clear hst l8;have e8:But [b8] w5 (w5.setCells b8 9 [.slice U P.us.length cu,.slice R P.rs.length cr]):=But.setCell (But.setCell (But.refl _ _) (by simp) _) (by simp) _;have hul':(P.us.set ka false).length=P.us.length:=List.length_set;have hrl':(P.rs.set ka 0).length=P.rs.length:=List.length_set
    have k8b:Blk (w5.setCells b8 9 [.slice U P.us.length cu,.slice R P.rs.length cr]) b8 38 (ze {P with us:=P.us.set ka false,rs:=P.rs.set ka 0} {M1 with U:=U,cu:=cu,R:=R,cr:=cr}):=by
     have:=(k8a.set_ 9 (.slice U P.us.length cu)).set_ 10 (.slice R P.rs.length cr);simp only[ze,hul',hrl']at this|-;exact this
    have hO6:=jR (hO4.ext hE5) k8a hro e8;have hap6:=jg (P:=P) (M:=M1) hO4 hro;have hb2:=Hb2.out;replace k4:=(k4.ext hE5).but e8 (by simp;omega);replace k5:=(k5.ext hE5).but e8 (by simp;omega);have hE6:=But.ext (hE34.trans hE5) e8 (fun q hq=>by have:=List.mem_singleton.1 hq;omega);obtain⟨P6,hP6⟩: ∃P6:Hpl,P6={P with us:=P.us.set ka false,rs:=P.rs.set ka 0}:=⟨_,rfl⟩;obtain⟨M6,hM6⟩: ∃M6:Hmm,M6={M1 with U:=U,cu:=cu,R:=R,cr:=cr}:=⟨_,rfl⟩;rw[<-hP6,<-hM6]at k8b hO6 hap6;have hv6:=Hv7.out;rw[<-hP6]at hv6;have Hv6:=Lib.hid hv6;have Hcd:=Lib.hid (show P6.C=P.C∧P6.dead=false by rw[hP6];exact⟨rfl,hdead⟩);generalize w5.setCells b8 9 [.slice U P.us.length cu,.slice R P.rs.length cr]=W6 at*;clear hv6 hP6 hM6 hul' hrl' e8 hro k8 k8a hO4 hE5 Hv7;have hlc:=zj k8b (za P6 M6);have hno:=qX (ze P6 M6) (za _ _) (zg _ _) 0 W6;go_wp2_with fail;go_at_call 34;refine hno.mono ?_;rintro e9 w9 ⟨rfl,hE9⟩;clear hlc hno;obtain⟨hst,hst2⟩:=yh (xs:=ze P6 M6) (k4.ext hE9) rfl (k5.ext hE9) rfl (za _ _) (zg _ _) (by omega) 0 0;have hb2:=Hb2.out;go_wp2_with fail;exact y9 (hO6.ext hE9) hap6 Hv6.out Hcd.out.1 (fun _=>Hcd.out.2) (hE6.trans hE9) (k4.ext hE9) (k5.ext hE9) (by omega) (by omega) rfl rfl rfl
   case inr.inr.inr.inr.inr=>
    have e1:(t:Int)+1-1=t:=by omega
    have hld:=zgd k2.drew (za P M);have r3:w2.cell? ⟨b2,3,none⟩=some (.int .i64 P.S.sh):=k2.cell 3;have r4:w2.cell? ⟨b2,4,none⟩=some (.slice (some ⟨M.gW,0,none⟩) P.S.ws.length M.cW):=k2.cell 4;have r5:w2.cell? ⟨b2,5,none⟩=some (.slice (some ⟨M.gF,0,none⟩) P.S.fs.length M.cF):=k2.cell 5;have hr15:=Hhh.out.1;have hd32:=Hhh.out.2.1;go_upto_region 32 with fail;go_cut [13,14] (fun s13 s14 wx=>s13= .int .i64 (ob.r:Int)∧s14= .int .i64 (ob.d:Int)∧Ext w2 wx)
    case first=>
     refine jRE [(true,0),(true,1),(true,2),(true,3),(true,4),(false,5),(true,6),(true,7),(false,8),(true,9),(true,10),(true,11),(true,12),(true,13),(true,14),(true,15)] Tryz.mixed fun hx=> ?_
     repeat(first
      |refine jLE hx ?_ (hv:=by intro _ hc;have hcl:=hld _ hc;go_simp;(try go_ints);exact rfl)
      |refine jLS ?_
      |(refine yo hx (fun K hK=> ?_);go_simp;go_at_call 38;refine(jf P M ka _ _ (hO.ext jX) Hka.out Hrl.out).mono ?_;rintro e w1 ⟨rfl,hEa⟩;refine hK _ _ (hEa) ?_;clear hK hx;intro hx;refine jq ?_)
      |(refine yo hx (fun K hK=> ?_);go_simp;go_at_call 41;refine(zit (some ⟨M.gW,0,none⟩) (some ⟨M.gF,0,none⟩) M.cW M.cF t P.S (I.map (·.x)) T.x B ob.o ob.r ob.d _ ((hO.ext jX).sp.rd) Hk.out.lay.ch (Hk.out.lay.mem HT.out) Hk.out.lay.pow Hhh.out.2.2.2 Hhh.out.1 Hhh.out.2.1 Hhh.out.2.2.1 Ht.out).mono ?_;rintro e w1 ⟨rfl,hEb⟩;refine hK _ _ (hEb) ?_;clear hK hx;intro hx;refine jq ?_)
      |(refine yo hx (fun K hK=> ?_);go_simp;(first|refine hK _ _ jX ?_|refine hK undef _ jX ?_);clear hK hx;intro hx;try refine jq ?_))
     refine zH ?_;go_wp2_with fail;go_meet;exact⟨rfl,rfl,by exact jX⟩
    case rest=>
     obtain⟨rfl,rfl,hE3⟩:=hcut;obtain⟨wb,hwb⟩: ∃wb,wb=wc:=⟨_,rfl⟩;subst hwb;clear c3 l3 l2 r3 r4 r5 hld;have hlc:=zj (k2.ext hE3) (za P M);have hno:=fun v=>qX (ze P M) (za _ _) (zg _ _) v wb
     go_wp2_with fail;go_at_call 34;refine(hno _).mono ?_;rintro e9 w9 ⟨rfl,hE9⟩;clear hlc hno;have hE39:=hE3.trans hE9;have hst:=zO (k4.ext hE39) rfl (za P M) (zg P M);have hst2:=fun v=>(yh (xs:=ze P M) (k4.ext hE39) rfl (k5.ext hE39) rfl (za _ _) (zg _ _) (by omega) 0 v).2
     have hsz:=za P M;have hb2:=Hb2.out;go_wp2_with fail;exact y9 (hO.ext hE39) Hap.out ⟨I,Hv0.out.wide (by omega)⟩ rfl (fun _=>hdead) (hE.trans hE39) (k4.ext hE39) (k5.ext hE39) (by omega) (by omega) rfl rfl rfl
   case inl=>
    have hlc:=zj k2 (za P M);have hal:=vr N B ka 2 b c P M I w2 hO Hap.out Hv0.out hN hdead Hkb.out (by omega);go_wp2_with fail;go_at_call 42;refine hal.mono ?_;rintro e9 w9 ⟨P',M',e,v,rfl,hO',hap',hv',hC',hde',hE9⟩;clear hlc hal;obtain⟨hst,hst2⟩:=yh (xs:=ze P' M') (k4.ext hE9) rfl (k5.ext hE9) rfl (za _ _) (zg _ _) (by omega) e v;have hb2:=Hb2.out;go_wp2_with fail;exact y9 hO' hap' hv' hC' hde' (hE.trans hE9) (k4.ext hE9) (k5.ext hE9) (by omega) (by omega) rfl rfl rfl
   case inr.inl=>
    have hlc:=zj k2 (za P M);have hal:=vr N B ka 3 b c P M I w2 hO Hap.out Hv0.out hN hdead Hkb.out (by omega);go_wp2_with fail;go_at_call 42;refine hal.mono ?_;rintro e9 w9 ⟨P',M',e,v,rfl,hO',hap',hv',hC',hde',hE9⟩;clear hlc hal;obtain⟨hst,hst2⟩:=yh (xs:=ze P' M') (k4.ext hE9) rfl (k5.ext hE9) rfl (za _ _) (zg _ _) (by omega) e v;have hb2:=Hb2.out;go_wp2_with fail;exact y9 hO' hap' hv' hC' hde' (hE.trans hE9) (k4.ext hE9) (k5.ext hE9) (by omega) (by omega) rfl rfl rfl
   case inr.inr.inl=>
    have hlc:=zj k2 (za P M);have hal:=vr N B ka 4 b c P M I w2 hO Hap.out Hv0.out hN hdead Hkb.out (by omega);go_wp2_with fail;go_at_call 42;refine hal.mono ?_;rintro e9 w9 ⟨P',M',e,v,rfl,hO',hap',hv',hC',hde',hE9⟩;clear hlc hal;obtain⟨hst,hst2⟩:=yh (xs:=ze P' M') (k4.ext hE9) rfl (k5.ext hE9) rfl (za _ _) (zg _ _) (by omega) e v;have hb2:=Hb2.out;go_wp2_with fail;exact y9 hO' hap' hv' hC' hde' (hE.trans hE9) (k4.ext hE9) (k5.ext hE9) (by omega) (by omega) rfl rfl rfl
   case inr.inr.inr.inl=>
    have hlc:=zj k2 (za P M);have hal:=vr N B ka 5 b c P M I w2 hO Hap.out Hv0.out hN hdead Hkb.out (by omega);go_wp2_with fail;go_at_call 42;refine hal.mono ?_;rintro e9 w9 ⟨P',M',e,v,rfl,hO',hap',hv',hC',hde',hE9⟩;clear hlc hal;obtain⟨hst,hst2⟩:=yh (xs:=ze P' M') (k4.ext hE9) rfl (k5.ext hE9) rfl (za _ _) (zg _ _) (by omega) e v;have hb2:=Hb2.out;go_wp2_with fail;exact y9 hO' hap' hv' hC' hde' (hE.trans hE9) (k4.ext hE9) (k5.ext hE9) (by omega) (by omega) rfl rfl rfl
  ·skip
   have hlc:=zj k2 (za P M);have hno:=xZ (ze P M) (za _ _) (zg _ _) 14 w2;go_wp2_with fail;go_at_call 31;refine hno.mono ?_;rintro e9 w9 ⟨rfl,hE9⟩;clear hlc hno;obtain⟨hst,hst2⟩:=yh (xs:=ze P M) (k4.ext hE9) rfl (k5.ext hE9) rfl (za _ _) (zg _ _) (by omega) 14 0;have hb2:=Hb2.out;go_wp2_with fail;exact y9 (hO.ext hE9) Hap.out ⟨I,Hv0.out.wide (by omega)⟩ rfl (fun _=>hdead) (hE.trans hE9) (k4.ext hE9) (k5.ext hE9) (by omega) (by omega) rfl rfl rfl
  ·skip
   have hlc:=zj k2 (za P M);have hno:=xZ (ze P M) (za _ _) (zg _ _) 16 w2;go_wp2_with fail;go_at_call 31;refine hno.mono ?_;rintro e9 w9 ⟨rfl,hE9⟩;clear hlc hno;obtain⟨hst,hst2⟩:=yh (xs:=ze P M) (k4.ext hE9) rfl (k5.ext hE9) rfl (za _ _) (zg _ _) (by omega) 16 0;have hb2:=Hb2.out;go_wp2_with fail;exact y9 (hO.ext hE9) Hap.out ⟨I,Hv0.out.wide (by omega)⟩ rfl (fun _=>hdead) (hE.trans hE9) (k4.ext hE9) (k5.ext hE9) (by omega) (by omega) rfl rfl rfl
theorem znj{Q:Ending->World->Prop}{a:Act}{W:World}{g1:Nat}{u0 u1:Value}(hd:a.defers= [])(h0:a.tmps[0]?.getD undef= .pointer (some ⟨g1,0,none⟩))
 (k1:Blk W g1 34 #[u0,u1]) (hQ:Q (.returned (.agg #[u0,u1])) W):bodyPost Tryz.prog Tryz.f28 Q Exit.ret a W:=by
 have c1:=k1.cell;exact bodyPost_ret (v:= .agg #[u0,u1]) (by simp[results,Tryz.results28,go_sem,h0,c1]) hd hQ
def zpt(w:World)(r:Ending)(w':World):Prop:= ∃gU gR:Nat,r= .returned (.agg #[.slice (some ⟨gU,0,none⟩) 32 32,.slice (some ⟨gR,0,none⟩) 32 32])∧w'.ownsRow w.heap.size 4 1 (.slice (some ⟨gU,0,none⟩) 32 32) 32 (List.replicate 32 (.bool false))∧w'.ownsRow w.heap.size 67 1 (.slice (some ⟨gR,0,none⟩) 32 32) 32 (List.replicate 32 (.int .u64 0))∧Ext w w'
theorem zge{N o:Nat}{S:List Nat}{w:World}{u v:Value}(h:o∈S):Bel N S w ((w.setCell ⟨o,0,none⟩ u).setCell ⟨o,1,none⟩ v):=Bel.setIn (Bel.setIn (Bel.refl _ _ _) h _) h _
theorem zgf(w:World):Calls Tryz.prog 28 #[] w (zpt w):=by
 obtain⟨cU,hcU⟩: ∃cU,cU=(List.replicate 32 (Value.bool false)).toArray:=⟨_,rfl⟩;obtain⟨cR,hcR⟩: ∃cR,cR=(List.replicate 32 (Value.int .u64 0)).toArray:=⟨_,rfl⟩;have mU: ∀W:World,(Instr.makeSlice 32 (.int .i64 32) (.int .i64 32)).run Tryz.prog W= .ok (.slice (some ⟨W.heap.size,0,none⟩) 32 32) (W.alloc (.cells cU 4)):=fun W=>by rw[hcU];exact js Tryz.elU rfl 32 (by omega) (by omega) W
 have mR: ∀W:World,(Instr.makeSlice 26 (.int .i64 32) (.int .i64 32)).run Tryz.prog W= .ok (.slice (some ⟨W.heap.size,0,none⟩) 32 32) (W.alloc (.cells cR 67)):=fun W=>by rw[hcR];exact js Tryz.elW rfl 32 (by omega) (by omega) W
 have zU:cU.size=32*1:=by rw[hcU];simp
 have zR:cR.size=32*1:=by rw[hcR];simp
 have HU:=Lib.hid hcU;have HR:=Lib.hid hcR;clear hcU hcR;go_enter Tryz.func28,Tryz.ntmps28;go_upto_region 1 with fail;refine yN (fun W k0 hE0=> ?_);obtain⟨b0,hb0⟩: ∃b,w.heap.size=b:=⟨_,rfl⟩;rw[hb0]at k0|-;have Hb0:=Lib.hid hb0;clear hb0;have l0:=k0.lt;have c0:=k0.cell;have f0:=k0.froz;go_cut [0] (fun t0 wx=> ∃gU gR:Nat,t0= .pointer (some ⟨b0,0,none⟩)∧Blk wx b0 34 #[.slice (some ⟨gU,0,none⟩) 32 32,.slice (some ⟨gR,0,none⟩) 32 32]∧wx.ownsRow W.heap.size 4 1 (.slice (some ⟨gU,0,none⟩) 32 32) 32 cU.toList∧wx.ownsRow W.heap.size 67 1 (.slice (some ⟨gR,0,none⟩) 32 32) 32 cR.toList∧Bel W.heap.size [b0] W wx)
 case first=>
  refine zn (W.heap.size) [b0] (.alt 0 (.alt 1 (.take 2 (.alt 3 .done .none)) .none) (.alt 1 (.alt 0 (.take 2 (.alt 3 .done .none)) .none) .none)) Tryz.mixed (by kernel_rfl) ?_;intro hx;refine jTC (fun K hK=> ?_) ?_;go_simp;first|refine hK _ _ jN ?_|refine hK undef _ jN ?_
  clear hK;intro hr;(try have hU:=yq (size:=1) (n:=32) hr (by omega) zU);(try have hU:=yj (size:=1) (n:=32) hr (by omega) zU);replace hx:=hx.trans hr;clear hr;refine jp ?_;refine jTC (fun K hK=> ?_);go_simp;first|refine hK _ _ jN ?_|refine hK undef _ jN ?_
  clear hK;intro hr;(try have hR:=yq (size:=1) (n:=32) hr (by omega) zR);(try have hR:=yj (size:=1) (n:=32) hr (by omega) zR);replace hx:=hx.trans hr;clear hr;refine jp ?_;first|refine jTN hx ?_|refine jTS ?_
  refine yl hx (fun K hK=> ?_);go_simp;refine hK _ ((by repeat(first|exact zge (by simp)|refine Bel.drew ?_|refine Bel.drewL ?_|refine Bel.both ?_ (by first|omega|(simp;done)|(simp;omega))))) ?_;clear hK hx;intro hx;refine zi ?_;rotate_left;refine jTC (fun K hK=> ?_);go_simp;first|refine hK _ _ jN ?_|refine hK undef _ jN ?_
  clear hK;intro hr;(try have hR:=yq (size:=1) (n:=32) hr (by omega) zR);(try have hR:=yj (size:=1) (n:=32) hr (by omega) zR);replace hx:=hx.trans hr;clear hr;refine jp ?_;refine jTC (fun K hK=> ?_);go_simp;first|refine hK _ _ jN ?_|refine hK undef _ jN ?_
  clear hK;intro hr;(try have hU:=yq (size:=1) (n:=32) hr (by omega) zU);(try have hU:=yj (size:=1) (n:=32) hr (by omega) zU);replace hx:=hx.trans hr;clear hr;refine jp ?_;first|refine jTN hx ?_|refine jTS ?_
  refine yl hx (fun K hK=> ?_);go_simp;refine hK _ ((by repeat(first|exact zge (by simp)|refine Bel.drew ?_|refine Bel.drewL ?_|refine Bel.both ?_ (by first|omega|(simp;done)|(simp;omega))))) ?_;clear hK hx;intro hx;refine zi ?_;rotate_left
  all_goals
   go_wp2;go_meet;refine⟨_,_,rfl,?_,za6 hU (o:=b0) ?_ ?_ ?_,za6 hR (o:=b0) ?_ ?_ ?_,zY hx⟩
   ·simp only[yr]
    exact((((k0.set_ 0 _).set_ 1 _).alloc _).alloc _).drew
   ·exact jB
   ·(first|omega|(simp;done)|(simp;omega))
   ·(first|omega|(simp;done)|(simp;omega))
   ·exact jB
   ·(first|omega|(simp;done)|(simp;omega))
   ·(first|omega|(simp;done)|(simp;omega))
 case rest=>
  obtain⟨gU,gR,rfl,k1,hU,hR,hB⟩:=hcut;have hb0:=Hb0.out;go_wp2_with fail;have hz:=hE0.size_le;refine znj rfl rfl k1 ⟨gU,gR,rfl,?_,?_,But.ext hE0 (y8 hB) (fun q hq=>by have:=List.mem_singleton.1 hq;omega)⟩
  ·rw[HU.out]at hU
   exact zu (by simpa using hU) hz
  ·rw[HR.out]at hR
   exact zu (by simpa using hR) hz
def qc(C:Cfg)(sh n:Nat):Hpl:=⟨C,xD sh n,List.replicate C.l.length [],0,[],List.replicate 32 false,List.replicate 32 0,0,⟨0,0,0,0,0,0,0,0,0⟩,false⟩
theorem zpu{C:Cfg}{sh n B:Nat}(hC:C.Ok)(h1:3<=sh∧sh<=8)(h2:2<=n∧n<=64)(hB:2^sh=B):Hv 0 (qc C sh n) B []:=by
 refine⟨⟨⟨⟨hB,zjs h1 h2,fun i hi=>(by cases hi),fun i hi=>(by cases hi)⟩,fun o ho=>(by simp[aos]at ho),fun o ho=>(by simp[aos]at ho)⟩,⟨by simp[qc],by simp[qc],fun k b v hb hv=> ?_⟩,fun x hx=>(by cases hx),fun x hx=>(by cases hx),fun i hi=>(by cases hi)⟩,⟨by simp[qc],fun x hx=>(by cases hx)⟩,hC,by simp[qc],⟨?_,?_,?_,fun i hi=>(by cases hi),fun i hi=>(by cases hi)⟩,⟨by simp[qc],by simp[qc]⟩,by simp[qc]⟩
 ·simp only[qc,List.getElem?_replicate]at hb hv
  by_cases hk:k<32
  ·rw[if_pos hk,Option.some.injEq]at hb hv
   subst hb hv;exact⟨fun _=>rfl,fun h=>(by cases h)⟩
  ·rw[if_neg hk]at hb
   cases hb
 ·have:(qc C sh n).Q.flatten= []:=by simp[qc]
  rw[this];exact List.Perm.refl _
 ·intro k q hq i hi
  simp only[qc,List.getElem?_replicate]at hq;split at hq
  ·injection hq with hq
   subst hq;cases hi
  ·cases hq
 ·intro q hq
  simp only[qc,List.mem_replicate]at hq;rw[hq.2];exact List.Pairwise.nil
def zkt(s:ByteArray)(f:Int)(A:Option Addr)(m c:Nat)(sh l1 l2 gW cW gF cF gA gU gR:Nat):Array Value:=
 #[.string s,.slice A m c,.int .i64 f,.int .i64 sh,.slice (some ⟨gW,0,none⟩) l1 cW,.slice (some ⟨gF,0,none⟩) l2 cF,.slice (some ⟨gA,0,none⟩) m m,.int .i64 0,.slice none 0 0,.slice (some ⟨gU,0,none⟩) 32 32,.slice (some ⟨gR,0,none⟩) 32 32,.int .i64 0,
   .int .i64 0,.int .i64 0,.int .i64 0,.int .i64 0,.int .i64 0,.int .i64 0,.int .i64 0,.int .i64 0,.int .i64 0,.bool false]
theorem zb4(w:World)(zs:Array Value)(sh l1 l2 gW cW gF cF:Nat)(hz:zs.size=3):(yw ⟨w.heap.size,0,none⟩ [.int .i64 sh,.slice (some ⟨gW,0,none⟩) l1 cW,.slice (some ⟨gF,0,none⟩) l2 cF]).run Tryz.prog (w.alloc (.cells zs 29))= .ok () (w.alloc (.cells #[.int .i64 sh,.slice (some ⟨gW,0,none⟩) l1 cW,.slice (some ⟨gF,0,none⟩) l2 cF] 29)):=
 run_storeCells_new (P:=Tryz.prog) w 29 zs #[.int .i64 sh,.slice (some ⟨gW,0,none⟩) l1 cW,.slice (some ⟨gF,0,none⟩) l2 cF] (by kernel_rfl) (by rw[hz];rfl) (by simp[Value.oneCell'])
theorem zgg{W:World}{b:Nat}{xs:Array Value}(k:Blk W b 38 xs)(hx:xs.size=22)(s:ByteArray)(f:Int)(A:Option Addr)(m c:Nat)(sh l1 l2 gW cW gF cF gA gU gR:Nat):
 (yw ⟨b,0,none⟩ [.string s,.slice A m c,.int .i64 f,.int .i64 sh,.slice (some ⟨gW,0,none⟩) l1 cW,.slice (some ⟨gF,0,none⟩) l2 cF,.slice (some ⟨gA,0,none⟩) m m,.int .i64 0,.slice none 0 0,.slice (some ⟨gU,0,none⟩) 32 32,.slice (some ⟨gR,0,none⟩) 32 32,.int .i64 0,
 .int .i64 0,.int .i64 0,.int .i64 0,.int .i64 0,.int .i64 0,.int .i64 0,.int .i64 0,.int .i64 0,.int .i64 0,.bool false]).run Tryz.prog W= .ok () (W.setRow b (zkt s f A m c sh l1 l2 gW cW gF cF gA gU gR)):=
 zO (xs:=zkt s f A m c sh l1 l2 gW cW gF cF gA gU gR) k hx rfl (by simp[zkt,Value.oneCell'])
attribute [local go_sem↓] yg yx in
theorem znk{Q:Ending->World->Prop}{a:Act}{W:World}{g6:Nat}{xs:Array Value}{t7:Value}(hd:a.defers= [])(h6:a.tmps[6]?.getD undef= .pointer (some ⟨g6,0,none⟩))(h7:a.tmps[7]?.getD undef=t7)
 (k6:Blk W g6 38 xs) (h:xs.size=22) (hQ:Q (.returned (.tuple #[.agg xs,t7])) W):bodyPost Tryz.prog Tryz.f15 Q Exit.ret a W:=by
 have hl:=zj k6 h;exact bodyPost_ret (v:= .tuple #[.agg xs,t7]) (by simp[results,Tryz.results15,h6,h7,go_sem,hl]) hd hQ
def zpv(w:World)(C:Cfg)(sh n:Nat)(r:Ending)(w':World):Prop:= ∃M':Hmm,r= .returned (.tuple #[.agg (ze (qc C sh n) M'),.int .i64 0])∧HO w' 0 (qc C sh n) M'∧Ap (qc C sh n) M'∧Ext w w'
attribute [local go_sem↓] yg xd yx in
attribute [local go_sem] xe in
theorem znl(Ac:Option Addr)(cc sh n:Nat)(C:Cfg)(w:World)(hA:Rd w Ac C.l.length 4 (y2 C.l))(hC:C.Ok)(hsh:3<=sh∧sh<=8)(hn:2<=n∧n<=64):
 Calls Tryz.prog 15 #[.agg #[.string C.s,.slice Ac C.l.length cc,.int .i64 C.f],.int .i64 sh,.int .i64 n] w (zpv w C sh n):=by
 have hl4:=hC.good.2.2.1;go_enter Tryz.func15,Tryz.ntmps15;go_upto_region 1 with fail;refine za0 (fun W k3 k6 hE0=> ?_);obtain⟨b3,hb3⟩: ∃b,w.heap.size=b:=⟨_,rfl⟩;rw[hb3]at k3 k6|-;have Hb3:=Lib.hid hb3;clear hb3;have c3:=k3.cell;have l3:=k3.lt;have hck:=j9 C.s Ac C.l.length cc C.l C.f C.z W (hA.ext hE0) hC.nm hC.good hC.last;go_wp2_with fail;go_at_call 26;refine hck.mono ?_;rintro e w1 ⟨rfl,hE1⟩;clear hck c3 l3;have hnw:=zov sh n w1 hsh hn;go_wp2_with fail;go_at_call 27;refine hnw.mono ?_;rintro e w2 ⟨gW,cW,gF,cF,rfl,hSO,hE2⟩;clear hnw;have hsp:=fun zs hz=>zb4 w2 zs sh (xD sh n).ws.length (xD sh n).fs.length gW cW gF cF hz
 go_upto_region 7 with fail;clear hsp;refine yN (fun W3 k9 hE3=> ?_);have hlt9:=((k6.ext hE1).ext hE2).lt;obtain⟨b9,hb9⟩: ∃b,w2.heap.size=b:=⟨_,rfl⟩;rw[hb9]at k9 hlt9|-;clear hb9;have k3a:=((k3.ext hE1).ext hE2).ext hE3;have k6a:=((k6.ext hE1).ext hE2).ext hE3;have hEw:=((hE0.trans hE1).trans hE2).trans hE3;have hS3:=hSO.ext hE3;have c3:=k3a.cell;have l3:=k3a.lt;go_upto_region 8 with(first|(at_builtin;refine y6 rfl Tryz.elR _ _ rfl rfl _ _ _ _ (y2 C.l) rfl (Rd.ext hA jX) (zah _) (by omega) (by omega) (Nat.le_refl _) ?_;intro B' b' w2 hB' hE2;have k3c:=(k3a.ext hE2);have f3:=k3c.froz;have l3:=k3c.lt;have c31:=k3c.cell));have k3b:Blk (w2.setCell ⟨b3,1,none⟩ (.slice B' C.l.length b')) b3 25 #[.string C.s,.slice B' C.l.length b',.int .i64 C.f]:=k3c.set_ 1 _;have hb3:=Hb3.out;have e3:But [b3] w2 (w2.setCell ⟨b3,1,none⟩ (.slice B' C.l.length b')):=But.setCell (But.refl _ _) (by simp) _;have hru:=ye hB' k3c e3 (by decide);have hS4:SOw (w2.setCell ⟨b3,1,none⟩ (.slice B' C.l.length b')) w1.heap.size (xD sh n) gW cW gF cF:=⟨ye (hS3.ext hE2).W k3c e3 (by decide),ye (hS3.ext hE2).F k3c e3 (by decide)⟩;have k6b:=(k6a.ext hE2).but e3 (by simp);have hlt69:=k6a.lt;have k9b:=(k9.ext hE2).but e3 (by simp;omega);have hEx:=But.ext (hEw.trans hE2) e3 (fun q hq=>by have:=List.mem_singleton.1 hq;omega);have hszA:=hEw.size_le;have hsz1:=(hE0.trans hE1).size_le;generalize w2.setCell ⟨b3,1,none⟩ (.slice B' C.l.length b')=W5 at*;clear f3 l3 c31 k3c e3 hB' k3a k6a k9 hS3 hE0 hE1 hE2 hE3 hEw k3 k6;obtain⟨m,hm⟩: ∃m,C.l.length=m:=⟨_,rfl⟩;obtain⟨l1,hl1⟩: ∃l1,(xD sh n).ws.length=l1:=⟨_,rfl⟩;obtain⟨l2,hl2⟩: ∃l2,(xD sh n).fs.length=l2:=⟨_,rfl⟩;rw[hm]at k3b hl4;rw[hl1,hl2]at k9b;obtain⟨cA,hcA⟩: ∃cA,cA=(List.replicate m (Value.slice none 0 0)).toArray:=⟨_,rfl⟩;have mA: ∀W:World,(Instr.makeSlice 30 (.int .i64 m) (.int .i64 m)).run Tryz.prog W= .ok (.slice (some ⟨W.heap.size,0,none⟩) m m) (W.alloc (.cells cA 155)):=fun W=>by rw[hcA];exact js Tryz.elB rfl m (by omega) (by omega) W
 have zA:cA.size=m*1:=by rw[hcA];simp
 have HcA:=Lib.hid hcA;have Hm:=Lib.hid hm;have Hl1:=Lib.hid hl1;have Hl2:=Lib.hid hl2;clear hcA hm hl1 hl2;have c3:=k3b.cell;have l3:=k3b.lt;have c9:=k9b.cell;have l9:=k9b.lt;have f6:=k6b.froz;have l6:=k6b.lt;have n1: ¬b9=b3+1:=by omega
 have k6w:=k6b
 go_cut [6,7] (fun t6 t7 wx=> ∃gA gU gR:Nat,t6= .pointer (some ⟨b3+1,0,none⟩)∧t7= .int .i64 0∧Blk wx (b3+1) 38 (zkt C.s C.f B' m b' sh l1 l2 gW cW gF cF gA gU gR)∧wx.ownsRow W5.heap.size 155 1 (.slice (some ⟨gA,0,none⟩) m m) m cA.toList∧
  wx.ownsRow W5.heap.size 4 1 (.slice (some ⟨gU,0,none⟩) 32 32) 32 (List.replicate 32 (.bool false))∧wx.ownsRow W5.heap.size 67 1 (.slice (some ⟨gR,0,none⟩) 32 32) 32 (List.replicate 32 (.int .u64 0))∧Bel W5.heap.size [b3+1] W5 wx)
 case first=>
  refine zn (W5.heap.size) [b3+1] (.take 0 (.take 1 (.take 2 (.take 3 (.take 4 (.alt 5 (.alt 6 (.take 7 (.alt 8 (.take 9 .done) .none)) .none) (.alt 6 (.alt 5 (.take 7 (.alt 8 (.take 9 .done) .none)) .none) .none))))))) Tryz.mixed (by kernel_rfl) ?_;intro hx;iterate 5 (first|refine jTN hx ?_|refine jTS ?_)
  refine jTC (fun K hK=> ?_) ?_;go_simp;first|refine hK _ _ jN ?_|refine hK undef _ jN ?_
  clear hK;intro hr;(try have hQ:=yq (size:=1) (n:=m) hr (by omega) zA);(try have hQ:=yj (size:=1) (n:=m) hr (by omega) zA);(try replace hU:=z8 hU (.cells cA 155));(try replace hR:=z8 hR (.cells cA 155));replace k6w:=k6w.alloc (.cells cA 155);replace hx:=hx.trans hr;clear hr;refine jp ?_;refine jCN hx (fun K hK=> ?_);go_simp;go_at_call 28;refine(zgf _).mono ?_;rintro e w1 ⟨gU,gR,rfl,hU,hR,hEr⟩;have hzR:=hEr.size_le;(try simp at hzR);(try replace hQ:=zm (y5 hQ) hEr);first|(replace k6w:=k6w.drew.ext hEr)|(replace k6w:=k6w.ext hEr)
  refine hK _ _ ((hEr).bel _) ?_;clear hK hx;intro hx;refine jp ?_;first|refine jTN hx ?_|refine jTS ?_
  refine yl hx (fun K hK=> ?_);have hst:=fun gA=>zgg k6w rfl C.s C.f B' m b' sh l1 l2 gW cW gF cF gA gU gR
  go_simp;refine hK _ ((xy (zD _ _ _) (by simp))) ?_;clear hK hx;intro hx;first|refine jTN hx ?_|refine jTS ?_
  refine zi ?_;rotate_left;refine jCN hx (fun K hK=> ?_);go_simp;go_at_call 28;refine(zgf _).mono ?_;rintro e w1 ⟨gU,gR,rfl,hU,hR,hEr⟩;have hzR:=hEr.size_le;(try simp at hzR);(try replace hQ:=zm (y5 hQ) hEr);first|(replace k6w:=k6w.drew.ext hEr)|(replace k6w:=k6w.ext hEr)
  refine hK _ _ ((hEr).bel _) ?_;clear hK hx;intro hx;refine jp ?_;refine jTC (fun K hK=> ?_);go_simp;first|refine hK _ _ jN ?_|refine hK undef _ jN ?_
  clear hK;intro hr;(try have hQ:=yq (size:=1) (n:=m) hr (by omega) zA);(try have hQ:=yj (size:=1) (n:=m) hr (by omega) zA);(try replace hU:=z8 hU (.cells cA 155));(try replace hR:=z8 hR (.cells cA 155));replace k6w:=k6w.alloc (.cells cA 155);replace hx:=hx.trans hr;clear hr;refine jp ?_;first|refine jTN hx ?_|refine jTS ?_
  refine yl hx (fun K hK=> ?_);have hst:=fun gA=>zgg k6w rfl C.s C.f B' m b' sh l1 l2 gW cW gF cF gA gU gR
  go_simp;refine hK _ ((xy (zD _ _ _) (by simp))) ?_;clear hK hx;intro hx;first|refine jTN hx ?_|refine jTS ?_
  refine zi ?_;rotate_left
  all_goals
   go_wp2;go_meet;refine⟨_,gU,gR,rfl,rfl,setRow_heap _ _ _ _ 38 (0,0) k6w,zu (ye hQ k6w (zD _ _ _) (by decide)) ?_,zu (ye hU k6w (zD _ _ _) (by decide)) ?_,zu (ye hR k6w (zD _ _ _) (by decide)) ?_,zY hx⟩;all_goals first|omega|(simp;done)|(simp;omega)
 case rest=>
  obtain⟨gA,gU,gR,rfl,rfl,k6f,hQ,hU,hR,hBl⟩:=hcut;have hBt:=y8 hBl;have hru2:=y4 hru k6b hBt (by decide);have hS5:=hS4.hp k6b hBt;have hsz5:=hEx.size_le;have hEz:=But.ext hEx hBt (fun q hq=>by have:=List.mem_singleton.1 hq;omega);obtain⟨M',hM'⟩: ∃M':Hmm,M'=⟨B',b',gW,cW,gF,cF,some ⟨gA,0,none⟩,m,List.replicate m (.slice none 0 0),none,0,[],some ⟨gU,0,none⟩,32,some ⟨gR,0,none⟩,32⟩:=⟨_,rfl⟩
  have hxs:zkt C.s C.f B' m b' sh l1 l2 gW cW gF cF gA gU gR=ze (qc C sh n) M':=by
   rw[hM'];simp only[zkt,ze,qc,Hm.out,Hl1.out,Hl2.out,List.length_replicate,List.length_nil];rfl
  have hHO:HO wc 0 (qc C sh n) M':=by
   rw[hM'];refine⟨zu hru2 (Nat.zero_le _),hS5.base_ (Nat.zero_le _),⟨?_,?_,?_,?_⟩,⟨zP _ _ _ _,fun p hp=>(by cases hp)⟩,rfl,⟨?_,?_⟩⟩
   ·simp[qc,Hm.out]
   ·simp only[qc,List.length_replicate,Hm.out]
    have:=zu hQ (Nat.zero_le _);rw[HcA.out]at this;simpa using this
   ·intro i v q hv hq
    simp only[qc,List.getElem?_replicate]at hv hq;split at hv
    ·split at hq
     ·injection hv with hv
      injection hq with hq;subst hv hq;exact zP _ _ _ _
     ·cases hq
    ·cases hv
   ·intro i j vi vj b hvi _ hb _
    simp only[List.getElem?_replicate]at hvi;split at hvi
    ·injection hvi with hvi
     subst hvi;simp[Value.ownBlock]at hb
    ·cases hvi
   ·simp only[qc,List.length_replicate,qe,List.map_replicate]
    exact zu hU (Nat.zero_le _)
   ·simp only[qc,List.length_replicate,words,List.map_replicate]
    exact zu hR (Nat.zero_le _)
  have hap:Ap (qc C sh n) M':=by
   intro b hb;rw[hM']at hb|-;have h1:=(World.ownsRow.lt hR b (by simpa[Value.ownBlock]using hb)).1;have h2:=hS4.lt;show b≠gW;omega
  have HHO:=Lib.hid hHO;have Hap:=Lib.hid hap;have Hxs:=Lib.hid hxs;have hb3:=Hb3.out;clear hHO hap hxs hQ hU hR hS5 hru2 hS4 hru;go_wp2_with fail;exact znk rfl rfl rfl k6f rfl ⟨M',by rw[Hxs.out];rfl,HHO.out,Hap.out,hEz⟩
def znm(w:World)(d:Nat)(r:Ending)(w':World):Prop:= ∃sh n:Nat,r= .returned (.tuple #[.int .i64 sh,.int .i64 n])∧(3<=sh∧sh<=4)∧(6<=n∧n<=20)∧Dk w' d∧But [d] w w'
theorem zku(d:Nat)(w:World)(hD:Dk w d):Calls Tryz.prog 14 #[.pointer (some ⟨d,0,none⟩)] w (znm w d):=by
 go_enter Tryz.func14,Tryz.ntmps14;go_wp2_with fail;go_at_call 17;refine(zG d 2 w hD (by omega) (by omega)).mono ?_;rintro e w1 ⟨x,rfl,hx,hD1,hB1⟩;go_wp2_with fail;go_at_call 17;refine(zG d 15 w1 hD1 (by omega) (by omega)).mono ?_;rintro e w2 ⟨y,rfl,hy,hD2,hB2⟩;go_wp2_with fail
 go_ret2
 exact⟨3+x,6+y,by go_num,by omega,by omega,hD2,hB1.trans hB2⟩
def znn(w:World)(d:Nat)(r:Ending)(w':World):Prop:= ∃x:Nat,r= .returned (.float .f64 x)∧okX x=true∧FloatKind.f64.format.order x 0=some .gt∧Dk w' d∧But [d] w w'
theorem zgh:(List.range 101).all (fun k=>k==0||FloatKind.f64.format.order (xM (k:Int)) 0==some .gt)=true:=by decide+kernel
theorem zjb{k:Nat}(h0:1<=k)(h:k<=100):FloatKind.f64.format.order (xM (k:Int)) 0=some .gt:=by
 have:=List.all_eq_true.1 zgh k (List.mem_range.2 (by omega));simp only[Bool.or_eq_true,beq_iff_eq]at this;rcases this with h1|h1
 ·omega
 ·exact h1
theorem zkv(d:Nat)(w:World)(hD:Dk w d):Calls Tryz.prog 24 #[.pointer (some ⟨d,0,none⟩)] w (znn w d):=by
 go_enter Tryz.func24,Tryz.ntmps24;go_wp2_with fail;go_at_call 17;refine(zG d 4 w hD (by omega) (by omega)).mono ?_;rintro e w1 ⟨x,rfl,hx,hD1,hB1⟩;by_cases h0:x=0
 ·subst h0
  have q1:(((0:Nat):Int)==0)=true:=by decide
  go_wp2_with fail;go_at_call 17;have hdl:=hD1.lt;refine(zG d 5 _ (hD1.ext jX) (by omega) (by omega)).mono ?_;rintro e w2 ⟨y,rfl,hy,hD2,hB2⟩;have kb:=(Blk.new rfl:Blk (w1.alloc (.cells #[.float .f64 4602678819172646912,.float .f64 4593671619917905920,.float .f64 4607182418800017408,.float .f64 4599676419421066581,.float .f64 4562254508917369340] 46)) w1.heap.size 46 _).but hB2 (by simp;omega);have cb:=kb.cell;have lb:=kb.lt;have hBt:But [d] w w2:=hB1.trans ((Ext.alloc (Ext.refl w1) _).but _|>.trans hB2);have hy5:y=0∨y=1∨y=2∨y=3∨y=4:=by omega
  clear hy kb;rcases hy5 with rfl|rfl|rfl|rfl|rfl
  all_goals
   go_wp2_with fail;go_ret;exact⟨_,rfl,by decide+kernel,by decide+kernel,hD2,hBt⟩
 ·have q1:((x:Int)==0)=false:=by rw[beq_eq_false_iff_ne];omega
  have q1':(x==0)=false:=by rw[beq_eq_false_iff_ne];exact h0
  clear h0;go_wp2_with fail;go_at_call 17;refine(zG d 100 w1 hD1 (by omega) (by omega)).mono ?_;rintro e w2 ⟨y,rfl,hy,hD2,hB2⟩;have hp:=fun w=>zS ((y:Int)+1) w
  have hy1:(1:Int)+y=y+1:=by omega
  have e1:(y:Int)+1=((y+1:Nat):Int):=by omega
  have ho:=zmv (k:=y+1) (by omega);have hg:=zjb (k:=y+1) (by omega) (by omega);rw[<-e1]at ho hg;have he:yQ ((y:Int)+1)=0:=by unfold yQ;rw[if_pos (by omega)]
  obtain⟨xx,hxx⟩: ∃xx,xM ((y:Int)+1)=xx:=⟨_,rfl⟩;simp only[he,hxx]at hp ho hg;have Ho:=Lib.hid ho;have Hg:=Lib.hid hg;clear e1 he hxx ho hg;have hy2:(1:Int)+y<=100:=by omega
  go_wp2_with fail
  trace_state
  go_at_call 49;refine(hp w2).mono ?_;rintro e w3 ⟨rfl,rfl⟩;go_wp2_with fail;go_ret;exact⟨xx,rfl,Ho.out,Hg.out,hD2,hB1.trans hB2⟩
def six:List ByteArray:= [qI,xF,xG,xH,sXx,xJ]
def zno(w:World)(r:Ending)(w':World):Prop:= ∃g:Nat,r= .returned (.slice (some ⟨g,0,none⟩) 6 6)∧Blk w' g 9 (six.map Value.string).toArray∧w.heap.size<=g∧Ext w w'
theorem zdh(w:World):Calls Tryz.prog 23 #[] w (zno w):=by
 go_enter Tryz.func23,Tryz.ntmps23;go_wp2;go_ret;exact⟨w.heap.size,rfl,Blk.new rfl,Nat.le_refl _,by exact jX⟩
def zjc(w:World)(d:Nat)(r:Ending)(w':World):Prop:= ∃(C:Cfg) (A:Option Addr) (c:Nat),r= .returned (.agg #[.string C.s,.slice A C.l.length c,.int .i64 C.f])∧C.Ok∧w'.ownsRow w.heap.size 79 4 (.slice A C.l.length c) C.l.length (y2 C.l)∧Dk w' d∧But [d] w w'
theorem zr7:okX 0=true:=rfl
theorem zdi:FloatKind.f64.format.order 0 0=some .eq:=by decide+kernel
theorem zkw{s:ByteArray}(hs:s∈six){k:Nat}(h1:1<=k)(h2:k<=100): ∃l full,yY s (k:Int)=(s,l,full,0)∧qF s∧ziw l l.length∧(full=0∧zbv l l.length false 0∨0<full∧∀f:Int,1<=f->f<=64->zbv l l.length true f):=by
 have hx:=zmv h2;have hg:=zjb h1 h2;have he:yQ (k:Int)=0:=by unfold yQ;rw[if_pos (by omega)]
 have h0: ¬(k:Int)=0:=by omega
 obtain⟨n1,n2,n3,n4,n5,n6⟩:=zka;obtain⟨x,hxx⟩: ∃x,xM (k:Int)=x:=⟨_,rfl⟩;rw[hxx]at hx hg;simp only[six,List.mem_cons,List.not_mem_nil,or_false]at hs;have o0:=zr7;rcases hs with rfl|rfl|rfl|rfl|rfl|rfl
 ·refine⟨[(0,0,0,0)],1,?_,n1,?_,?_⟩
  ·unfold yY xN
   rw[hxx];simp(decide:=true) [he];omega
  ·skip
   refine⟨rfl,by simp,by simp,fun k r hk=> ?_,fun j hj=> ?_⟩
   ·rcases k with _|_|_|k<;>simp at hk<;>subst hk<;>refine⟨by assumption,by simp,by simp,by simp,by simp,fun _=>(by first|(simp;done)|(simp_all;done)|omega),fun _=>(by first|(simp;done)|(simp_all;done)|omega)⟩
   ·rcases j with _|_|_|j
    all_goals first|rfl|(exfalso;simp at hj;done)|(exfalso;simp at hj;omega)
  ·exact .inr ⟨by omega,fun f h1 h2=>⟨_,rfl,.inl ⟨rfl,zdi,h1,h2⟩⟩⟩
 ·refine⟨[(0,0,0,1),(0,0,0,1)],8,?_,n2,?_,?_⟩
  ·unfold yY xN
   rw[hxx];simp(decide:=true) [he];omega
  ·skip
   refine⟨rfl,by simp,by simp,fun k r hk=> ?_,fun j hj=> ?_⟩
   ·rcases k with _|_|_|k<;>simp at hk<;>subst hk<;>refine⟨by assumption,by simp,by simp,by simp,by simp,fun _=>(by first|(simp;done)|(simp_all;done)|omega),fun _=>(by first|(simp;done)|(simp_all;done)|omega)⟩
   ·rcases j with _|_|_|j
    all_goals first|rfl|(exfalso;simp at hj;done)|(exfalso;simp at hj;omega)
  ·exact .inr ⟨by omega,fun f h1 h2=>⟨_,rfl,.inl ⟨rfl,zdi,h1,h2⟩⟩⟩
 ·refine⟨[(x,1,0,1),(0,0,0,1)],8,?_,n3,?_,?_⟩
  ·unfold yY xN
   rw[hxx];simp(decide:=true) [he];omega
  ·skip
   refine⟨rfl,by simp,by simp,fun k r hk=> ?_,fun j hj=> ?_⟩
   ·rcases k with _|_|_|k<;>simp at hk<;>subst hk<;>refine⟨by assumption,by simp,by simp,by simp,by simp,fun _=>(by first|(simp;done)|(simp_all;done)|omega),fun _=>(by first|(simp;done)|(simp_all;done)|omega)⟩
   ·rcases j with _|_|_|j
    all_goals first|rfl|(exfalso;simp at hj;done)|(exfalso;simp at hj;omega)
  ·exact .inr ⟨by omega,fun f h1 h2=>⟨_,rfl,.inl ⟨rfl,zdi,h1,h2⟩⟩⟩
 ·refine⟨[(x,0,1,0)],0,?_,n4,?_,?_⟩
  ·unfold yY xN
   rw[hxx];simp(decide:=true) [he];omega
  ·skip
   refine⟨rfl,by simp,by simp,fun k r hk=> ?_,fun j hj=> ?_⟩
   ·rcases k with _|_|_|k<;>simp at hk<;>subst hk<;>refine⟨by assumption,by simp,by simp,by simp,by simp,fun _=>(by first|(simp;done)|(simp_all;done)|omega),fun _=>(by first|(simp;done)|(simp_all;done)|omega)⟩
   ·rcases j with _|_|_|j
    all_goals first|rfl|(exfalso;simp at hj;done)|(exfalso;simp at hj;omega)
  ·exact .inl ⟨rfl,_,rfl,.inr ⟨rfl,hg,rfl⟩⟩
 ·refine⟨[(x,0,1,1),(x,0,1,1)],0,?_,n5,?_,?_⟩
  ·unfold yY xN
   rw[hxx];simp(decide:=true) [he];omega
  ·skip
   refine⟨rfl,by simp,by simp,fun k r hk=> ?_,fun j hj=> ?_⟩
   ·rcases k with _|_|_|k<;>simp at hk<;>subst hk<;>refine⟨by assumption,by simp,by simp,by simp,by simp,fun _=>(by first|(simp;done)|(simp_all;done)|omega),fun _=>(by first|(simp;done)|(simp_all;done)|omega)⟩
   ·rcases j with _|_|_|j
    all_goals first|rfl|(exfalso;simp at hj;done)|(exfalso;simp at hj;omega)
  ·exact .inl ⟨rfl,_,rfl,.inr ⟨rfl,hg,rfl⟩⟩
 ·refine⟨[(x,0,1,1),(x,0,1,2),(0,0,0,2)],8,?_,n6,?_,?_⟩
  ·unfold yY xN
   rw[hxx];simp(decide:=true) [he];omega
  ·skip
   refine⟨rfl,by simp,by simp,fun k r hk=> ?_,fun j hj=> ?_⟩
   ·rcases k with _|_|_|k<;>simp at hk<;>subst hk<;>refine⟨by assumption,by simp,by simp,by simp,by simp,fun _=>(by first|(simp;done)|(simp_all;done)|omega),fun _=>(by first|(simp;done)|(simp_all;done)|omega)⟩
   ·rcases j with _|_|_|j
    all_goals first|rfl|(exfalso;simp at hj;done)|(exfalso;simp at hj;omega)
  ·exact .inr ⟨by omega,fun f h1 h2=>⟨_,rfl,.inl ⟨rfl,zdi,h1,h2⟩⟩⟩
theorem qB{w w1:World}{d b:Nat}{t:TypeId}{cs:Array Value}(hB:But [d] w w1)(hD:Dk w d)(k:Blk w b t cs)(ht:t≠54):Blk w1 b t cs:=by
 obtain⟨_,_,_,_,_,h1,_⟩:=hD;have:=k.ne_ h1 ht;exact k.but hB (by simpa using this)
theorem zb5{w:World}{d b:Nat}{t:TypeId}{cs:Array Value}(k:Blk w b t cs)(hD:Dk w d)(ht:t≠54): ¬b=d:=by
 obtain⟨_,_,_,_,_,h1,_⟩:=hD;exact k.ne_ h1 ht
structure KB(N d:Nat)(t:TypeId)(a b:World):Prop where
 os:b.os=a.os
 tape:b.tape=a.tape
 output:b.output=a.output
 size:a.heap.size<=b.heap.size
 block: ∀k obj,a.heap[k]? =some obj->k≠d->(k<N∨∀cs z,obj≠ .cells cs t z) ->b.heap[k]? =some obj
 typed: ∀k cs,N<=k->Blk a k t cs-> ∃cs',cs'.size=cs.size∧Blk b k t cs'
section
variable{N d:Nat} {t:TypeId} {a b c:World}
theorem KB.refl(a:World):KB N d t a a:=⟨rfl,rfl,rfl,Nat.le_refl _,fun _ _ h _ _=>h,fun _ cs _ h=>⟨cs,rfl,h⟩⟩
theorem KB.trans(h:KB N d t a b)(k:KB N d t b c):KB N d t a c:=
 ⟨k.os.trans h.os,k.tape.trans h.tape,k.output.trans h.output,Nat.le_trans h.size k.size,fun i obj hi hd ho=>k.block i obj (h.block i obj hi hd ho) hd ho,fun i cs hi hb=>by
   obtain⟨cs',e,hb'⟩:=h.typed i cs hi hb;obtain⟨cs2,e2,hb2⟩:=k.typed i cs' hi hb';exact⟨cs2,e2.trans e,hb2⟩⟩
theorem KB.but(h:But [d] a b)(hd:d<N):KB N d t a b:=by
 have hb: ∀k,k<a.heap.size->k≠d->b.heap[k]? =a.heap[k]? :=fun k hk hne=>h.block k hk (by simpa using hne)
 have lt: ∀{k:Nat} {obj:Obj},a.heap[k]? =some obj->k<a.heap.size:=fun{k obj} hk=>by
  rcases Nat.lt_or_ge k a.heap.size with h1|h1
  ·exact h1
  ·rw[Array.getElem?_eq_none h1]at hk;cases hk
 exact⟨h.os,h.tape,h.output,h.size,fun k obj hk hne _=>by rw[hb k (lt hk) hne];exact hk,fun k cs hN hk=>⟨cs,rfl,hk.but h (by simp;omega)⟩⟩
theorem KB.ext(h:Ext a b)(hd:d<N):KB N d t a b:=KB.but (h.but _) hd
theorem KB.drewL(h:KB N d t a b):KB N d t a.drew b:=⟨h.os,h.tape,h.output,h.size,h.block,h.typed⟩
theorem KB.drew(h:KB N d t a b):KB N d t a b.drew:=⟨h.os,h.tape,h.output,h.size,h.block,h.typed⟩
theorem KB.set(k:Nat)(cs:Array Value)(hk:Blk a k t cs)(hN:N<=k)(i:Nat)(u:Value):KB N d t a (a.setCell ⟨k,i,none⟩ u):=by
 refine⟨rfl,rfl,rfl,by simp[World.setCell],fun j obj hj hd ho=> ?_,fun j cj hj hb=> ?_⟩
 ·by_cases e:j=k
  ·subst e
   rcases ho with ho|ho
   ·omega
   ·unfold Blk at hk
    rw[hk]at hj;injection hj with hj;exact absurd hj.symm (ho _ _)
  ·rw[RowKit.Below.heap_setCell _ _ _ _ e]
   exact hj
 ·by_cases e:j=k
  ·subst e
   exact⟨_,by simp,hb.set_ i u⟩
  ·exact⟨cj,rfl,hb.far (by simpa using e) u⟩
theorem KB.fresh(hN:N<=a.heap.size)(cs cs':Array Value)(h:cs.size=cs'.size):KB N d t (a.alloc (.cells cs t)) (a.alloc (.cells cs' t)):=by
 have hk:Blk (a.alloc (.cells cs t)) a.heap.size t cs:=Blk.new rfl;refine⟨rfl,rfl,rfl,by simp,fun j obj hj hd ho=> ?_,fun j cj hj hb=> ?_⟩
 ·by_cases e:j=a.heap.size
  ·subst e
   rcases ho with ho|ho
   ·omega
   ·unfold Blk at hk
    rw[hk]at hj;injection hj with hj;exact absurd hj.symm (ho _ _)
  ·rcases Nat.lt_or_ge j a.heap.size with hlt|hge
   ·rw[RowKit.Below.heap_alloc _ _ _ hlt]at hj|-
    exact hj
   ·rw[Array.getElem?_eq_none (by simp;omega)]at hj
    cases hj
 ·by_cases e:j=a.heap.size
  ·subst e
   unfold Blk at hk hb;rw[hk]at hb;injection hb with hb;injection hb with hb _ _;subst hb;exact⟨cs',h.symm,Blk.new rfl⟩
  ·have hlt:=hb.lt
   simp at hlt;refine⟨cj,rfl,?_⟩;unfold Blk at hb|-;rw[RowKit.Below.heap_alloc _ _ _ (by omega)]at hb|-;exact hb
theorem KB.blk{k:Nat}{t':TypeId}{cs:Array Value}(h:KB N d t a b)(hk:Blk a k t' cs)(hd:k≠d)(ht:t'≠t):Blk b k t' cs:=
 h.block k _ hk hd (.inr fun cs' z e=>by injection e with _ e _;exact ht e)
theorem KB.toBut(h:KB a.heap.size d t a b):But [d] a b:=⟨h.os,h.tape,h.output,h.size,fun k hk hn=>by
 obtain⟨obj,ho⟩: ∃obj,a.heap[k]? =some obj:=⟨_,Array.getElem?_eq_getElem hk⟩;rw[ho];exact h.block k obj ho (by simpa using hn) (.inl hk)⟩
end
theorem KB.drewW{N d:Nat}{t:TypeId}{a b:World}(h:KB N d t a.drew b):KB N d t a b:=⟨h.os,h.tape,h.output,h.size,h.block,h.typed⟩
theorem Dk.swap{w:World}{d:Nat}{o:Obj}(h:Dk (w.alloc o) d)(hd:d<w.heap.size)(o':Obj):Dk (w.alloc o') d:=by
 refine h.but (S:= [w.heap.size]) ⟨rfl,rfl,rfl,by simp,fun k hk hn=> ?_⟩ (fun x hx=>by have:=List.mem_singleton.1 hx;omega);simp at hk hn;rw[RowKit.Below.heap_alloc _ _ _ (by omega),RowKit.Below.heap_alloc _ _ _ (by omega)]
theorem za1{P:Program}{ops:Array Oper}(N d:Nat)(t0:TypeId){id:Nat}{Q:Exit->Act->World->Prop}{a:Act}{w:World}(t:Tree)
 (hm:P.follows .mixedOrders=true) (hck:zbe ops t=true) (h:KB N d t0 w.drew w.drew->wpT P ops (KB N d t0) (Q .normal) t a w.drew):(Code.region id ops true).wp P Q a w:=
 qR (KB N d t0) t KB.refl (fun _ _ _=>KB.trans) hm hck (h (KB.refl _)).out
structure ST(d:Nat)(L:List (Nat×TypeId×Array Value))(w:World):Prop where
 dk:Dk w d
 bl: ∀x∈L,Blk w x.1 x.2.1 x.2.2∧d<x.1
section
variable{d:Nat} {L:List (Nat×TypeId×Array Value)} {w w':World}
theorem ST.ext(h:ST d L w)(he:Ext w w'):ST d L w':=⟨h.dk.ext he,fun x hx=>⟨(h.bl x hx).1.ext he,(h.bl x hx).2⟩⟩
theorem ST.next(h:ST d L w)(hk:Dk w' d)(hB:But [d] w w'):ST d L w':=⟨hk,fun x hx=>⟨(h.bl x hx).1.but hB (by have:=(h.bl x hx).2;simp;omega),(h.bl x hx).2⟩⟩
theorem ST.add(h:ST d L w){k:Nat}{t:TypeId}{cs:Array Value}(hk:Blk w k t cs)(hd:d<k):ST d ((k,t,cs)::L) w:=⟨h.dk,fun x hx=>by
 rcases List.mem_cons.1 hx with rfl|hx
 ·exact⟨hk,hd⟩
 ·exact h.bl x hx⟩
theorem ST.new{R:World->World->Prop}{t:TypeId}{cs:Array Value}(h:ST d L w)(_:R w (w.alloc (.cells cs t))):ST d ((w.heap.size,t,cs)::L) (w.alloc (.cells cs t)):=(h.ext (Ext.alloc (Ext.refl _) _)).add (Blk.new rfl) h.dk.lt
theorem ST.newD{R:World->World->Prop}{t:TypeId}{cs:Array Value}(h:ST d L w.drew)(_:R w.drew (w.alloc (.cells cs t)).drew):ST d ((w.heap.size,t,cs)::L) (w.alloc (.cells cs t)).drew:=
 ST.add (h.ext (Ext.drewL (Ext.drew (Ext.alloc (Ext.refl w) (.cells cs t))))) (Blk.drew (Blk.new rfl:Blk (w.alloc (.cells cs t)) w.heap.size t cs)) (show d<w.heap.size from h.dk.lt)
theorem ST.again(h:ST d L w){k:Nat}{t:TypeId}{cs:Array Value}{w0:World}(_:Blk w0 k t cs)(hm:(k,t,cs)∈L):Blk w k t cs∧d<k:=h.bl _ hm
end
theorem xO{R:World->World->Prop}{w:World}{o:Obj}(_:R w (w.alloc o)):Ext w (w.alloc o):=Ext.alloc (Ext.refl _) _
theorem xz{R:World->World->Prop}{w:World}{cs:Array Value}{t:TypeId}(_:R w (w.alloc (.cells cs t))):Blk (w.alloc (.cells cs t)) w.heap.size t cs:=Blk.new rfl
theorem zhs{x:Nat}(h:x<6): ∃s,s∈six∧∀{w:World} {g:Nat},Blk w g 9 (six.map Value.string).toArray->w.cell? ⟨g,x,none⟩=some (.string s):=by
 obtain⟨s,hs⟩: ∃s,six[x]? =some s:=⟨_,List.getElem?_eq_getElem (by simpa[six]using h)⟩;refine⟨s,List.mem_of_getElem? hs,fun k=> ?_⟩;rw[k.cell];simp[hs]
def zr8(p:Int):Array Value:= #[.int .i64 10,.int .i64 15,.int .i64 25,.int .i64 30,.int .i64 50,.int .i64 p]
theorem xR{x p:Nat}(h:x<6)(hp:p<=99): ∃q:Nat,1<=q∧q<=100∧(zr8 (1+(p:Int)))[x]? =some (.int .i64 q):=by
 have:x=0∨x=1∨x=2∨x=3∨x=4∨x=5:=by omega
 rcases this with rfl|rfl|rfl|rfl|rfl|rfl
 ·exact⟨10,by omega,by omega,rfl⟩
 ·exact⟨15,by omega,by omega,rfl⟩
 ·exact⟨25,by omega,by omega,rfl⟩
 ·exact⟨30,by omega,by omega,rfl⟩
 ·exact⟨50,by omega,by omega,rfl⟩
 ·exact⟨1+p,by omega,by omega,by simp[zr8]⟩
def CfB(N:Nat)(w:World)(k:Nat):Prop:=N<=k∧∃v0 v1 v2,Blk w k 25 #[v0,v1,v2]
section
variable{N d k:Nat} {w w' W:World} {t:TypeId}
theorem CfB.ext(h:CfB N w k)(he:Ext w w'):CfB N w' k:=⟨h.1,by obtain⟨a,b,c,hk⟩:=h.2;exact⟨a,b,c,hk.ext he⟩⟩
theorem CfB.next(h:CfB N w k)(hD:Dk w d)(hB:But [d] w w'):CfB N w' k:=⟨h.1,by obtain⟨a,b,c,hk⟩:=h.2;exact⟨a,b,c,qB hB hD hk (by decide)⟩⟩
theorem qu(hx:KB N d t W w)(hN:N<=W.heap.size){v0 v1 v2:Value}(_:KB N d t w (w.alloc (.cells #[v0,v1,v2] 25))):CfB N (w.alloc (.cells #[v0,v1,v2] 25)) w.heap.size:=⟨Nat.le_trans hN hx.size,v0,v1,v2,Blk.new rfl⟩
theorem xP(hN:N<=w.heap.size){v0 v1 v2:Value}(_:KB N d t w.drew (w.alloc (.cells #[v0,v1,v2] 25)).drew):CfB N (w.alloc (.cells #[v0,v1,v2] 25)).drew w.heap.size:=⟨hN,v0,v1,v2,Blk.drew (Blk.new rfl)⟩
theorem xt{v0 v1 v2 u0 u1 u2:Value}(hk:Blk w k t #[v0,v1,v2])(hN:N<=k):KB N d t w (((w.setCell ⟨k,0,none⟩ u0).setCell ⟨k,1,none⟩ u1).setCell ⟨k,2,none⟩ u2):=
 ((KB.set k _ hk hN 0 u0).trans (KB.set k _ (hk.set_ 0 u0) hN 1 u1)).trans (KB.set k _ ((hk.set_ 0 u0).set_ 1 u1) hN 2 u2)
theorem KB.own{base n size:Nat}{v:Value}{e:TypeId}{xs:List Value}(h:KB N d t w w')(ho:w.ownsRow base e size v n xs)(hd:d<base)(hne:e≠t):w'.ownsRow base e size v n xs:=by
 refine⟨ho.1,?_⟩;rcases ho.2 with h0|⟨g,cap,cur,hv,hb,hg,r⟩
 ·exact .inl h0
 ·exact .inr ⟨g,cap,cur,hv,hb,h.block g _ hg (by omega) (.inr fun cs z e'=>by injection e' with _ e' _;exact hne e'),r⟩
end
end Go.Proofs.YtopcdfbplknmlaaGreat
