/- The walk of the mutator's field (reference). Conditions: the ranges that each theorem states. -/
import Derived.Test.YtopcdfbplknmlaaGreatL
import Derived.Test.YtopcdfbplknmlaaGreatG18
set_option linter.all false
set_option maxHeartbeats 8000000
set_option maxRecDepth 100000
namespace Go.Proofs.YtopcdfbplknmlaaGreat
open Go.RowKit Go.Draw
theorem zgd{W:World}{b:Nat}{xs:Array Value}(k:Blk W b 38 xs)(h:xs.size=22): ∀w',(∀b f,(W.cell? ⟨b,f,none⟩).isSome=true->w'.cell? ⟨b,f,none⟩=W.cell? ⟨b,f,none⟩) ->(xc ⟨b,0,none⟩ 22).run Tryz.prog w'= .ok xs w':=fun w' hc=>qt h fun j v hv=>by
 have h1:=k.cell j;rw[hc b j (by rw[h1,hv];rfl),h1,hv]
theorem jy{W:World}{b N:Nat}{S:List Nat}{xs:Array Value}(k:Blk W b 38 xs)(h:xs.size=22)(hN:b<N)(hS:b∉S): ∀w',(∀b f,b<N->b∉S->w'.cell? ⟨b,f,none⟩=W.cell? ⟨b,f,none⟩) ->(xc ⟨b,0,none⟩ 22).run Tryz.prog w'= .ok xs w':=fun w' hc=>qt h fun j v hv=>by
 rw[hc b j hN hS,k.cell j,hv]
def zr6(w:World)(B:Nat)(T:In)(ob:Ob)(z:Bool)(b:Int)(r:Ending)(w':World):Prop:= ∃x e:Int,r= .returned (.tuple #[.int .i64 x,.int .i64 e])∧
 (e=17∨e=0∧∃i:Nat,b=(i:Int)∧((z=true∧i<ob.r∧x=(zy T.x.c B (ob.o+(1+i)):Nat))∨(z=false∧i<ob.d∧x=(zy T.x.c B (ob.o+((1+ob.r)+i)):Nat))))∧Ext w w'
theorem zra(A Bf:Option Addr)(a b:Nat)(S:Sp)(I:List In)(T:In)(ob:Ob)(B t:Nat)(z:Bool)(bI:Int)(w:World)(h:SRd w S A Bf)(hk:Hok S B I)(hT:T∈I)(hob:ob∈T.obs)(ht:zy T.x.c B ob.o=t):
 Calls Tryz.prog 67 #[.agg #[.int .i64 S.sh,.slice A S.ws.length a,.slice Bf S.fs.length b],.int .i64 t,.int .i64 bI,.bool z] w (zr6 w B T ob z bI):=by
 obtain⟨hr,hd',hh,hp⟩:=kE hk hT hob;have hl:=hk.lay;subst ht;cases z with
 |true=>
  by_cases hin:0<=bI∧bI<ob.r
  ·obtain⟨i,rfl⟩: ∃i:Nat,bI=(i:Int):=⟨bI.toNat,by omega⟩
   refine(zbm A Bf a b S _ T.x B ob.o ob.r ob.d i w h hl.ch (hl.mem hT) hl.pow hp hr hd' hh (by omega)).mono ?_;rintro r w' ⟨rfl,hE⟩;exact⟨_,_,rfl,.inr ⟨rfl,i,rfl,.inl ⟨rfl,by omega,rfl⟩⟩,hE⟩
  ·refine(zko A Bf a b S _ T.x B ob.o ob.r ob.d bI w h hl.ch (hl.mem hT) hl.pow hp hr hd' hh (by omega)).mono ?_
   rintro r w' ⟨rfl,hE⟩;exact⟨_,_,rfl,.inl rfl,hE⟩
 |false=>
  by_cases hin:0<=bI∧bI<ob.d
  ·obtain⟨i,rfl⟩: ∃i:Nat,bI=(i:Int):=⟨bI.toNat,by omega⟩
   refine(zat A Bf a b S _ T.x B ob.o ob.r ob.d i w h hl.ch (hl.mem hT) hl.pow hp hr hd' hh (by omega)).mono ?_;rintro r w' ⟨rfl,hE⟩;exact⟨_,_,rfl,.inr ⟨rfl,i,rfl,.inr ⟨rfl,by omega,rfl⟩⟩,hE⟩
  ·refine(zhq A Bf a b S _ T.x B ob.o ob.r ob.d bI w h hl.ch (hl.mem hT) hl.pow hp hr hd' hh (by omega)).mono ?_
   rintro r w' ⟨rfl,hE⟩;exact⟨_,_,rfl,.inl rfl,hE⟩
theorem xr{N:Nat}{S:List Nat}{w:World}{b:Nat}{xs:Array Value}(h:N<=b):Bel N S w (w.setRow b xs):=by
 have hb:=zD w b xs;exact⟨hb.os,hb.tape,hb.output,hb.size,fun hN k hk _=>hb.block k (by omega) (by simp;omega)⟩
theorem zhr{N B:Nat}{P:Hpl}{M:Hmm}{I:List In}(hv:Hv N P B I){c:Int}(hc:c=0∨∃k:Nat,c=(k:Int)+1∧P.us[k]? =some true): ∃v:Int,(v=0∨∃T'∈I,∃ob'∈T'.obs,v=((zy T'.x.c B ob'.o:Nat):Int)+1)∧
 ∀w',HO w' 0 P M->Calls Tryz.prog 38 #[.agg (ze P M),.int .i64 c] w' fun r w''=>r= .returned (.int .u64 v)∧Ext w' w'':=by
 rcases hc with rfl|⟨k,rfl,hk⟩
 ·exact⟨0,.inl rfl,fun w' _=>zkr P M w'⟩
 ·obtain⟨T,ob,hT,hob,hr⟩:=hv.vh.obj hk
  exact⟨_,.inr ⟨T,hT,ob,hob,rfl⟩,fun w' h=>jf P M k _ w' h hr hv.vh.rt.2.1⟩
attribute [local go_sem↓] yg xd yx in
attribute [local go_sem] xe in
theorem vr(N B ka:Nat)(code b c:Int)(P:Hpl)(M:Hmm)(I:List In)(w:World)(h:HO w 0 P M)(hap:Ap P M)(hv:Hv N P B I)(hN:N<=800000)(hdead:P.dead=false)(hka:P.us[ka]? =some true)(hcode:code=2∨code=3∨code=4∨code=5):
 Calls Tryz.prog 42 #[.agg (ze P M),.agg #[.int .i64 code,.int .i64 ((ka:Int)+1),.int .i64 b,.int .i64 c]] w (zdg w (N+257) B P.C):=by
 obtain⟨T,ob,hT,hob,hkr⟩:=hv.vh.obj hka;obtain⟨t,ht⟩: ∃t,zy T.x.c B ob.o=t:=⟨_,rfl⟩;rw[ht]at hkr
 have ht16:t<16384:=by
  obtain⟨_,_,_,_,_,hlt⟩:=hv.vh.hok.lay.owner hT hob (k:=0) (by unfold Ob.n;omega);rw[yn (b:=ob) (k:=0) (by unfold Ob.n;omega),Nat.add_zero,ht]at hlt;have:=zav hv.vh.hok.lay.ch;omega
 have Hv0:=Lib.hid hv;have Hul:=Lib.hid hv.vh.rt.1;have Hrl:=Lib.hid hv.vh.rt.2.1;have Hrok:=Lib.hid hv.vh.rok;have Hk:=Lib.hid hv.vh.hok;have HT:=Lib.hid hT;have Hob:=Lib.hid hob;have Hka:=Lib.hid hkr;have Hkb:=Lib.hid hka;have Ht:=Lib.hid ht;have Hap:=Lib.hid hap;clear hv hT hob hkr hka ht hap;obtain⟨zr,hzr⟩: ∃zr:Bool,zr=(code==2||code==3):=⟨_,rfl⟩;go_enter Tryz.func42,Tryz.ntmps42;go_upto_region 1 with fail;refine zpg (fun W k2 k3 k4 k5 hE0=> ?_);obtain⟨b2,hb2⟩: ∃b,w.heap.size=b:=⟨_,rfl⟩;rw[hb2]at k2 k3 k4 k5|-;have Hb2:=Lib.hid hb2;clear hb2;have c3:=k3.cell;have l3:=k3.lt;have hO:=h.ext hE0;go_cut [6] (fun s wx=>s= .bool zr∧wx=W)
 case first=>
  rcases hcode with rfl|rfl|rfl|rfl
  all_goals
   go_wp2_with fail;go_meet;exact⟨by rw[hzr];rfl,rfl⟩
 case rest=>
  obtain⟨rfl,hwe⟩:=hcut;subst hwe;obtain⟨W,hW⟩: ∃W,W=wc:=⟨_,rfl⟩;subst hW;have Hzr:=Lib.hid hzr;clear hzr;have e1:(t:Int)+1-1=t:=by omega
  have hld:=zgd k2.drew (za P M);have r3:W.cell? ⟨b2,3,none⟩=some (.int .i64 P.S.sh):=k2.cell 3;have r4:W.cell? ⟨b2,4,none⟩=some (.slice (some ⟨M.gW,0,none⟩) P.S.ws.length M.cW):=k2.cell 4;have r5:W.cell? ⟨b2,5,none⟩=some (.slice (some ⟨M.gF,0,none⟩) P.S.fs.length M.cF):=k2.cell 5;have l2:=k2.lt;go_upto_region 2 with fail;go_cut [7,8] (fun s7 s8 wx=> ∃x e:Int,s7= .int .i64 x∧s8= .int .i64 e∧(e=17∨e=0∧∃i:Nat,b=(i:Int)∧((zr=true∧i<ob.r∧x=(zy T.x.c B (ob.o+(1+i)):Nat))∨(zr=false∧i<ob.d∧x=(zy T.x.c B (ob.o+((1+ob.r)+i)):Nat))))∧Ext W wx)
  case first=>
   refine jRE [(true,0),(true,1),(true,2),(true,3),(true,4),(true,8),(true,9),(true,10),(false,5),(true,6),(true,7),(false,11),(true,12),(true,13),(true,14),(true,15),(true,16)] Tryz.mixed fun hx=> ?_
   repeat(first
    |refine jLE hx ?_ (hv:=by intro _ hc;have hcl:=hld _ hc;go_simp;(try go_ints);exact rfl)
    |refine jLS ?_
    |(refine yo hx (fun K hK=> ?_);go_simp;go_at_call 38;refine(jf P M ka _ _ (hO.ext jX) Hka.out Hrl.out).mono ?_;rintro e w1 ⟨rfl,hEa⟩;refine hK _ _ (hEa) ?_;clear hK hx;intro hx;refine jq ?_)
    |(refine yo hx (fun K hK=> ?_);go_simp;go_at_call 67;refine(zra (some ⟨M.gW,0,none⟩) (some ⟨M.gF,0,none⟩) M.cW M.cF P.S I T ob B t zr b _ ((hO.ext jX).sp.rd) Hk.out HT.out Hob.out Ht.out).mono ?_;rintro e w1 ⟨x,e,rfl,hpl,hEb⟩;refine hK _ _ (hEb) ?_;clear hK hx;intro hx;refine jq ?_)
    |(refine yo hx (fun K hK=> ?_);go_simp;(first|refine hK _ _ jX ?_|refine hK undef _ jX ?_);clear hK hx;intro hx;try refine jq ?_))
   refine zH ?_;go_wp2_with fail;go_meet;exact⟨x,e,rfl,rfl,hpl,by exact jX⟩
  case rest=>
   obtain⟨x,e,rfl,rfl,hpl,hE1⟩:=hcut;obtain⟨Wa,hWa⟩: ∃Wa,Wa=wc:=⟨_,rfl⟩;subst hWa;replace k2:=k2.ext hE1;replace k3:=k3.ext hE1;replace k4:=k4.ext hE1;replace k5:=k5.ext hE1;replace hO:=hO.ext hE1;have hE:=hE0.trans hE1;clear c3 l3 r3 r4 r5 l2 hld hE0 hE1 h;rcases hpl with rfl|⟨rfl,i,rfl,hx⟩
   ·skip
    have hlc:=zj k2 (za P M);have hno:=xZ (ze P M) (za _ _) (zg _ _) 17 Wa;go_wp2_with fail;go_at_call 31;refine hno.mono ?_;rintro e9 w9 ⟨rfl,hE9⟩;clear hlc hno;obtain⟨hst,hst2⟩:=yh (xs:=ze P M) (k4.ext hE9) rfl (k5.ext hE9) rfl (za _ _) (zg _ _) (by omega) 17 0;have hb2:=Hb2.out;go_wp2_with fail;exact yV (hO.ext hE9) Hap.out ⟨I,Hv0.out.wide (by omega)⟩ rfl (fun _=>hdead) (hE.trans hE9) (k4.ext hE9) (k5.ext hE9) (by omega) (by omega) rfl rfl rfl
   ·have hxn: ∃xn:Nat,x=(xn:Int)∧xn<P.S.ws.length:=by
     rcases hx with⟨_,hi,rfl⟩|⟨_,hi,rfl⟩
     ·refine⟨_,rfl,?_⟩
      have hbn:1+i<ob.n:=by unfold Ob.n;omega
      obtain⟨_,_,_,_,_,hlt⟩:=Hv0.out.vh.hok.lay.owner HT.out Hob.out hbn;rw[yn hbn]at hlt;exact hlt
     ·refine⟨_,rfl,?_⟩
      have hbn:1+ob.r+i<ob.n:=by unfold Ob.n;omega
      obtain⟨_,_,_,_,_,hlt⟩:=Hv0.out.vh.hok.lay.owner HT.out Hob.out hbn;rw[yn hbn]at hlt;exact hlt
    obtain⟨xn,rfl,hxl⟩:=hxn;have Hx:=Lib.hid hx;clear hx;obtain⟨z0,hz0⟩: ∃z0,P.S.ws[xn]? =some z0:=⟨_,List.getElem?_eq_getElem hxl⟩;have Hz0:=Lib.hid hz0;obtain⟨bW,oW,he,z1⟩:=xw hO.sp.rd.W hz0;simp only[Option.some.injEq,Addr.mk.injEq,and_true]at he;obtain⟨rfl,rfl⟩:=he;simp only[Nat.zero_add]at z1;have lW:=zh z1;have hxI:(xn:Int)<P.S.ws.length:=by omega
    have hw2:=Hv0.out.gd.sm.w2;have c4:Wa.cell? ⟨b2,4,none⟩=some (.slice (some ⟨M.gW,0,none⟩) P.S.ws.length M.cW):=k2.cell 4;have l2:=k2.lt;have c3:=k3.cell;have l3:=k3.lt;clear hz0;go_upto_region 7 with fail;clear c4 l2 z1 lW;rcases hcode with rfl|rfl|rfl|rfl
    ·have hzt:zr=true:=by rw[Hzr.out];rfl
     have hptr:Ptr (aos B I) z0:=by
      rcases Hx.out with⟨_,hi,hxe⟩|⟨hf,_⟩
      ·have hbn:1+i<ob.n:=by unfold Ob.n;omega
       have:=Hk.out.refs _ (zK.2 ⟨T,HT.out,ob,Hob.out,rfl⟩) i hi;rw[yn hbn]at this;have hxe':xn=zy T.x.c B (ob.o+(1+i)):=by omega
       rw[<-hxe']at this;unfold Sp.w at this;rw[List.getD_eq_getElem?_getD,Hz0.out]at this;exact this
      ·rw[hf]at hzt;cases hzt
     clear hzt;rcases hptr with rfl|⟨o,ho,hzo⟩
     ·skip
      have hlc:=zj k2 (za P M);have hno:=qX (ze P M) (za _ _) (zg _ _) 0 Wa;go_wp2_with fail;go_at_call 34;refine hno.mono ?_;rintro e9 w9 ⟨rfl,hE9⟩;clear hlc hno;obtain⟨hst,hst2⟩:=yh (xs:=ze P M) (k4.ext hE9) rfl (k5.ext hE9) rfl (za _ _) (zg _ _) (by omega) 0 0;have hb2:=Hb2.out;go_wp2_with fail;exact yV (hO.ext hE9) Hap.out ⟨I,Hv0.out.wide (by omega)⟩ rfl (fun _=>hdead) (hE.trans hE9) (k4.ext hE9) (k5.ext hE9) (by omega) (by omega) rfl rfl rfl
     ·obtain⟨u,hu⟩: ∃u,o.f 0=u:=⟨_,rfl⟩
      rw[hu]at hzo;have q1:((u:Int)+1==0)=false:=by rw[beq_eq_false_iff_ne];omega
      have Ho:=Lib.hid ho;have Hu:=Lib.hid hu;subst hzo;clear ho hu;have hlc:=zj k2 (za P M);have hfu:=zb3 P M Wa hO Hul.out;go_wp2_with fail;go_at_call 55;refine hfu.mono ?_;rintro e w2 ⟨fz,rfl,hfr,hE2⟩;clear hlc hfu;have Hfr:=Lib.hid hfr;clear hfr c3 l3;replace hE:=hE.trans hE2;replace hO:=hO.ext hE2;replace k2:=k2.ext hE2;replace k4:=k4.ext hE2;replace k5:=k5.ext hE2;cases fz with
      |true=>
       have hlc:=zj k2 (za P M);have hno:=xZ (ze P M) (za _ _) (zg _ _) 15 w2;go_wp2_with fail;go_at_call 31;refine hno.mono ?_;rintro e9 w9 ⟨rfl,hE9⟩;clear hlc hno;obtain⟨hst,hst2⟩:=yh (xs:=ze P M) (k4.ext hE9) rfl (k5.ext hE9) rfl (za _ _) (zg _ _) (by omega) 15 0;have hb2:=Hb2.out;go_wp2_with fail;exact yV (hO.ext hE9) Hap.out ⟨I,Hv0.out.wide (by omega)⟩ rfl (fun _=>hdead) (hE.trans hE9) (k4.ext hE9) (k5.ext hE9) (by omega) (by omega) rfl rfl rfl
      |false=>
       obtain⟨k,hk,hkj⟩:=Hfr.out rfl
       have hk32:k<32:=by
        have:=(List.getElem?_eq_some_iff.1 hk).1;have:=Hul.out;omega
       have hlc:=zj k2 (za P M);have Hkk:=Lib.hid hk;have Hkj:=Lib.hid hkj;clear hk hkj;go_wp2_with fail;go_at_call 39;refine(qo P M w2 hO Hv0.out.gd.sm).mono ?_;rintro e w3 ⟨M1,rfl,hO3,hE3,hap3⟩;clear hlc;have hst:=fun zs hz=>zT w3 zs (ze P M1) hz (za P M1) (zg P M1)
       have hsz:=za P M1;have hlt:=(k5.ext hE3).lt;go_upto_region 15 with fail;clear hst hsz;refine yN (fun W4 k8 hE4=> ?_);obtain⟨b8,hb8⟩: ∃b,w3.heap.size=b:=⟨_,rfl⟩;rw[hb8]at k8 hlt|-;clear hb8;replace k4:=(k4.ext hE3).ext hE4;replace k5:=(k5.ext hE3).ext hE4;have hE34:=(hE.trans hE3).trans hE4;have hO4:=(hO3.ext hE4).base_ (Nat.zero_le _);have htk:=zfj M1.U M1.R M1.cu M1.cr k P.us P.rs ((u:Int)+1) W4 hO4.ro Hrok.out Hkk.out Hkj.out
       have hv7: ∃I',Hv (N+257) {P with us:=P.us.set k true,rs:=P.rs.set k ((u:Int)+1)} B I':=by
        have:=Hv0.out.vh.take (k:=k) Ho.out;rw[Hu.out]at this;have hs0:=Hv0.out.s0;have hct:=Hv0.out.ct;exact⟨I,this,Hv0.out.wf,Hv0.out.ok,Hv0.out.ql,Hv0.out.bt,by show 0<=P.sq∧P.sq<=((N+257:Nat):Int);omega,by show 0<=P.k.cp∧P.k.cp<=P.k.cd∧P.k.cd<=((N+257:Nat):Int)*16384;omega⟩
       have Hv7:=Lib.hid hv7;have r9:W4.cell? ⟨b8,9,none⟩=some (.slice M1.U P.us.length M1.cu):=k8.cell 9;have r10:W4.cell? ⟨b8,10,none⟩=some (.slice M1.R P.rs.length M1.cr):=k8.cell 10;have l8:=k8.lt;have hwb:=hE.size_le;clear hv7 hO3 hO k2 hap3;go_wp2_with fail;go_at_call 57;refine htk.mono ?_;rintro e w5 ⟨U,cu,R,cr,rfl,hro,hE5⟩;clear htk r9 r10 l8;have k8a:=k8.ext hE5;have l8:=k8a.lt;have hst:=yE k8a 9 [.slice U P.us.length cu,.slice R P.rs.length cr] (by rw[za];simp) (by simp[Value.oneCell']);go_upto_region 17 with fail;clear hst l8;have e8:But [b8] w5 (w5.setCells b8 9 [.slice U P.us.length cu,.slice R P.rs.length cr]):=But.setCell (But.setCell (But.refl _ _) (by simp) _) (by simp) _;have hul':(P.us.set k true).length=P.us.length:=List.length_set;have hrl':(P.rs.set k ((u:Int)+1)).length=P.rs.length:=List.length_set
       have k8b:Blk (w5.setCells b8 9 [.slice U P.us.length cu,.slice R P.rs.length cr]) b8 38 (ze {P with us:=P.us.set k true,rs:=P.rs.set k ((u:Int)+1)} {M1 with U:=U,cu:=cu,R:=R,cr:=cr}):=by
        have:=(k8a.set_ 9 (.slice U P.us.length cu)).set_ 10 (.slice R P.rs.length cr);simp only[ze,hul',hrl']at this|-;exact this
       have hO6:=jR (hO4.ext hE5) k8a hro e8;have hap6:=jg (P:=P) (M:=M1) hO4 hro;have hb2:=Hb2.out;replace k4:=(k4.ext hE5).but e8 (by simp;omega);replace k5:=(k5.ext hE5).but e8 (by simp;omega);have hE6:=But.ext (hE34.trans hE5) e8 (fun q hq=>by have:=List.mem_singleton.1 hq;omega);obtain⟨P6,hP6⟩: ∃P6:Hpl,P6={P with us:=P.us.set k true,rs:=P.rs.set k ((u:Int)+1)}:=⟨_,rfl⟩;obtain⟨M6,hM6⟩: ∃M6:Hmm,M6={M1 with U:=U,cu:=cu,R:=R,cr:=cr}:=⟨_,rfl⟩;rw[<-hP6,<-hM6]at k8b hO6 hap6;have hv6:=Hv7.out;rw[<-hP6]at hv6;have Hv6:=Lib.hid hv6;have Hcd:=Lib.hid (show P6.C=P.C∧P6.dead=false by rw[hP6];exact⟨rfl,hdead⟩);generalize w5.setCells b8 9 [.slice U P.us.length cu,.slice R P.rs.length cr]=W6 at*;clear hv6 hP6 hM6 hul' hrl' e8 hro k8 k8a hO4 hE5 Hv7;have hlc:=zj k8b (za P6 M6);have hno:=qX (ze P6 M6) (za _ _) (zg _ _) ((k:Int)+1) W6;go_wp2_with fail;go_at_call 34;refine hno.mono ?_;rintro e9 w9 ⟨rfl,hE9⟩;clear hlc hno;obtain⟨hst,hst2⟩:=yh (xs:=ze P6 M6) (k4.ext hE9) rfl (k5.ext hE9) rfl (za _ _) (zg _ _) (by omega) 0 ((k:Int)+1);have hb2:=Hb2.out;go_wp2_with fail;exact yV (hO6.ext hE9) hap6 Hv6.out Hcd.out.1 (fun _=>Hcd.out.2) (hE6.trans hE9) (k4.ext hE9) (k5.ext hE9) (by omega) (by omega) rfl rfl rfl
    ·have hzt:zr=true:=by rw[Hzr.out];rfl
     have hi:i<ob.r:=by
      rcases Hx.out with⟨_,hi,_⟩|⟨hf,_⟩
      ·exact hi
      ·rw[hf]at hzt;cases hzt
     have Hi:=Lib.hid hi;have hlc:=zj k2 (za P M);have hha:=ya P M c false Wa hO Hul.out;clear hzt hi;go_wp2_with fail;go_at_call 36;refine hha.mono ?_;rintro e w2 ⟨e12,rfl,hok,hE2⟩;clear hlc hha c3 l3;have hEw:=hE.trans hE2;have hO2:=hO.ext hE2;replace k2:=k2.ext hE2;replace k3:=k3.ext hE2;replace k4:=k4.ext hE2;replace k5:=k5.ext hE2;rcases hok with⟨rfl,hc⟩|rfl|rfl
     ·have hc':c=0∨∃k:Nat,c=(k:Int)+1∧P.us[k]? =some true:=by
       rcases hc with⟨_,h⟩|h
       ·exact .inl h
       ·exact .inr h
      obtain⟨v,hvp,hwc⟩:=zhr (M:=M) Hv0.out hc';have Hvp:=Lib.hid hvp;have Hwc:=Lib.hid hwc;have c3:=k3.cell;have l3:=k3.lt;have l2:=k2.lt;have l5:=k5.lt;have hszw:=hEw.size_le;have hb2:=Hb2.out;have hld:=jy (N:=w2.heap.size) (S:= []) k2.drew (za P M) l2 (by simp);clear hc hc' hvp hwc hO;have hO:=hO2;go_upto_region 22 with fail;go_cut [13,14] (fun s13 s14 wx=> ∃(x13:Nat) (P5:Hpl) (M5:Hmm),s13= .pointer (some ⟨x13,0,none⟩)∧s14= .int .i64 0∧Blk wx x13 38 (ze P5 M5)∧HO wx 0 P5 M5∧Ap P5 M5∧(∃I',Hv N P5 B I')∧P5.C=P.C∧P5.dead=P.dead∧Ext w2 wx)
      case first=>
       refine zn (w2.heap.size) [] (.take 0 (.take 1 (.take 2 (.take 3 (.take 7 (.take 8 (.take 9 (.take 10 (.take 11 (.alt 4 (.take 5 (.take 6 (.alt 12 (.alt 13 (.take 14 (.take 15 (.take 16 (.alt 17 (.alt 18 (.take 19 .done) .none) .none)))) (.alt 17 (.alt 13 (.take 14 (.take 15 (.take 16 (.alt 18 (.take 19 .done) .none)))) .none) .none)) (.alt 17 (.alt 12 (.alt 13 (.take 14 (.take 15 (.take 16 (.alt 18 (.take 19 .done) .none)))) .none) .none) .none)))) (.alt 17 (.alt 4 (.take 5 (.take 6 (.alt 12 (.alt 13 (.take 14 (.take 15 (.take 16 (.alt 18 (.take 19 .done) .none)))) .none) .none))) .none) .none))))))))))) Tryz.mixed (by kernel_rfl) ?_;intro hx;iterate 9 (first|refine jTN hx ?_ (hv:=by intro _ hc;have hcl:=hld _ hc;go_simp;(try go_ints);exact rfl)|refine jTS ?_)
       refine jCN hx (fun K hK=> ?_) ?_;go_simp;go_at_call 38;refine(jf P M ka _ _ (hO.ext jX) Hka.out Hrl.out).mono ?_;rintro e w1 ⟨rfl,hEa⟩;have hzA:=hEa.size_le;(try simp at hzA);first|(replace k13:=k13.ext hEa)|skip
       refine hK _ _ ((hEa).bel _) ?_;clear hK hx;intro hx;refine jp ?_;iterate 2 (first|refine jTN hx ?_ (hv:=by intro _ hc;have hcl:=hld _ hc;go_simp;(try go_ints);exact rfl)|refine jTS ?_)
       refine jCN hx (fun K hK=> ?_) ?_;go_simp;go_at_call 38;refine(Hwc.out _ (hO.ext jX)).mono ?_;rintro e w1 ⟨rfl,hEb⟩;have hzB:=hEb.size_le;(try simp at hzB);first|(replace k13:=k13.ext hEb)|skip
       refine hK _ _ ((hEb).bel _) ?_;clear hK hx;intro hx;refine jp ?_;refine jCN hx (fun K hK=> ?_) ?_;go_simp;go_at_call 68;refine(kG N B P M I T ob t i v _ (hO.ext jX) Hv0.out HT.out Hob.out Ht.out hdead Hi.out Hvp.out).mono ?_;rintro e w1 ⟨P5,M5,rfl,hH,hde5⟩;have hEc:=hH.ex;have hzG:=hEc.size_le;(try simp at hzG);first|(have hst:=zO (k13.ext hEc) rfl (za P5 M5) (zg P5 M5);replace k13:=k13.ext hEc)|(have hst:=fun zs hz=>zT w1 zs (ze P5 M5) hz (za P5 M5) (zg P5 M5));have hsz:=za P5 M5
       refine hK _ _ ((hH.ex).bel _) ?_;clear hK hx;intro hx;refine jp ?_;iterate 3 (first|refine jTN hx ?_ (hv:=by intro _ hc;have hcl:=hld _ hc;go_simp;(try go_ints);exact rfl)|refine jTS ?_)
       refine jTC (fun K hK=> ?_)
       skip
       go_simp;first|refine hK _ _ jN ?_|refine hK undef _ jN ?_
       clear hK;intro hr;first|(have k13:=zE hr)|(have k13:=zI hr)
       replace hx:=hx.trans hr;clear hr;refine jp ?_;refine yl hx (fun K hK=> ?_)
       skip
       go_simp;refine hK _ ((by first|exact xr (by omega)|exact xr (by simp;omega)|exact Bel.alloc1 (by omega)|exact Bel.alloc1 (by simp;omega))) ?_;clear hK hx;intro hx;first|refine jTN hx ?_ (hv:=by intro _ hc;have hcl:=hld _ hc;go_simp;(try go_ints);exact rfl)|refine jTS ?_
       refine zi ?_;rotate_left;refine jTC (fun K hK=> ?_)
       skip
       go_simp;first|refine hK _ _ jN ?_|refine hK undef _ jN ?_
       clear hK;intro hr;first|(have k13:=zE hr)|(have k13:=zI hr)
       replace hx:=hx.trans hr;clear hr;refine jp ?_;refine jCN hx (fun K hK=> ?_);go_simp;go_at_call 68;refine(kG N B P M I T ob t i v _ (hO.ext jX) Hv0.out HT.out Hob.out Ht.out hdead Hi.out Hvp.out).mono ?_;rintro e w1 ⟨P5,M5,rfl,hH,hde5⟩;have hEc:=hH.ex;have hzG:=hEc.size_le;(try simp at hzG);first|(have hst:=zO (k13.ext hEc) rfl (za P5 M5) (zg P5 M5);replace k13:=k13.ext hEc)|(have hst:=fun zs hz=>zT w1 zs (ze P5 M5) hz (za P5 M5) (zg P5 M5));have hsz:=za P5 M5
       refine hK _ _ ((hH.ex).bel _) ?_;clear hK hx;intro hx;refine jp ?_;iterate 3 (first|refine jTN hx ?_ (hv:=by intro _ hc;have hcl:=hld _ hc;go_simp;(try go_ints);exact rfl)|refine jTS ?_)
       refine yl hx (fun K hK=> ?_)
       skip
       go_simp;refine hK _ ((by first|exact xr (by omega)|exact xr (by simp;omega)|exact Bel.alloc1 (by omega)|exact Bel.alloc1 (by simp;omega))) ?_;clear hK hx;intro hx;first|refine jTN hx ?_ (hv:=by intro _ hc;have hcl:=hld _ hc;go_simp;(try go_ints);exact rfl)|refine jTS ?_
       refine zi ?_;rotate_left;refine jTC (fun K hK=> ?_)
       skip
       go_simp;first|refine hK _ _ jN ?_|refine hK undef _ jN ?_
       clear hK;intro hr;first|(have k13:=zE hr)|(have k13:=zI hr)
       replace hx:=hx.trans hr;clear hr;refine jp ?_;refine jCN hx (fun K hK=> ?_);go_simp;go_at_call 38;refine(Hwc.out _ (hO.ext jX)).mono ?_;rintro e w1 ⟨rfl,hEb⟩;have hzB:=hEb.size_le;(try simp at hzB);first|(replace k13:=k13.ext hEb)|skip
       refine hK _ _ ((hEb).bel _) ?_;clear hK hx;intro hx;refine jp ?_;refine jCN hx (fun K hK=> ?_);go_simp;go_at_call 68;refine(kG N B P M I T ob t i v _ (hO.ext jX) Hv0.out HT.out Hob.out Ht.out hdead Hi.out Hvp.out).mono ?_;rintro e w1 ⟨P5,M5,rfl,hH,hde5⟩;have hEc:=hH.ex;have hzG:=hEc.size_le;(try simp at hzG);first|(have hst:=zO (k13.ext hEc) rfl (za P5 M5) (zg P5 M5);replace k13:=k13.ext hEc)|(have hst:=fun zs hz=>zT w1 zs (ze P5 M5) hz (za P5 M5) (zg P5 M5));have hsz:=za P5 M5
       refine hK _ _ ((hH.ex).bel _) ?_;clear hK hx;intro hx;refine jp ?_;iterate 3 (first|refine jTN hx ?_ (hv:=by intro _ hc;have hcl:=hld _ hc;go_simp;(try go_ints);exact rfl)|refine jTS ?_)
       refine yl hx (fun K hK=> ?_)
       skip
       go_simp;refine hK _ ((by first|exact xr (by omega)|exact xr (by simp;omega)|exact Bel.alloc1 (by omega)|exact Bel.alloc1 (by simp;omega))) ?_;clear hK hx;intro hx;first|refine jTN hx ?_ (hv:=by intro _ hc;have hcl:=hld _ hc;go_simp;(try go_ints);exact rfl)|refine jTS ?_
       refine zi ?_;rotate_left;refine jTC (fun K hK=> ?_)
       skip
       go_simp;first|refine hK _ _ jN ?_|refine hK undef _ jN ?_
       clear hK;intro hr;first|(have k13:=zE hr)|(have k13:=zI hr)
       replace hx:=hx.trans hr;clear hr;refine jp ?_;refine jCN hx (fun K hK=> ?_);go_simp;go_at_call 38;refine(jf P M ka _ _ (hO.ext jX) Hka.out Hrl.out).mono ?_;rintro e w1 ⟨rfl,hEa⟩;have hzA:=hEa.size_le;(try simp at hzA);first|(replace k13:=k13.ext hEa)|skip
       refine hK _ _ ((hEa).bel _) ?_;clear hK hx;intro hx;refine jp ?_;iterate 2 (first|refine jTN hx ?_ (hv:=by intro _ hc;have hcl:=hld _ hc;go_simp;(try go_ints);exact rfl)|refine jTS ?_)
       refine jCN hx (fun K hK=> ?_);go_simp;go_at_call 38;refine(Hwc.out _ (hO.ext jX)).mono ?_;rintro e w1 ⟨rfl,hEb⟩;have hzB:=hEb.size_le;(try simp at hzB);first|(replace k13:=k13.ext hEb)|skip
       refine hK _ _ ((hEb).bel _) ?_;clear hK hx;intro hx;refine jp ?_;refine jCN hx (fun K hK=> ?_);go_simp;go_at_call 68;refine(kG N B P M I T ob t i v _ (hO.ext jX) Hv0.out HT.out Hob.out Ht.out hdead Hi.out Hvp.out).mono ?_;rintro e w1 ⟨P5,M5,rfl,hH,hde5⟩;have hEc:=hH.ex;have hzG:=hEc.size_le;(try simp at hzG);first|(have hst:=zO (k13.ext hEc) rfl (za P5 M5) (zg P5 M5);replace k13:=k13.ext hEc)|(have hst:=fun zs hz=>zT w1 zs (ze P5 M5) hz (za P5 M5) (zg P5 M5));have hsz:=za P5 M5
       refine hK _ _ ((hH.ex).bel _) ?_;clear hK hx;intro hx;refine jp ?_;iterate 3 (first|refine jTN hx ?_ (hv:=by intro _ hc;have hcl:=hld _ hc;go_simp;(try go_ints);exact rfl)|refine jTS ?_)
       refine yl hx (fun K hK=> ?_)
       skip
       go_simp;refine hK _ ((by first|exact xr (by omega)|exact xr (by simp;omega)|exact Bel.alloc1 (by omega)|exact Bel.alloc1 (by simp;omega))) ?_;clear hK hx;intro hx;first|refine jTN hx ?_ (hv:=by intro _ hc;have hcl:=hld _ hc;go_simp;(try go_ints);exact rfl)|refine jTS ?_
       refine zi ?_;rotate_left
       all_goals
        go_wp2_with fail;go_meet
        first
         |(have k14:=k13
           exact⟨_,P5,M5,rfl,rfl,setRow_heap _ _ _ (ze P5 M5) 38 (0,0) k14,hH.ho.bx k14 (zD _ _ _),hH.ap,hH.hv,hH.cf,hde5,yM (Ext.refl w2) (zY hx)⟩)
         |exact⟨_,P5,M5,rfl,rfl,Blk.new rfl,hH.ho.ext (Ext.alloc (Ext.refl _) _),hH.ap,hH.hv,hH.cf,hde5,yM (Ext.refl w2) (zY hx)⟩
      case rest=>
       obtain⟨x13,P5,M5,rfl,rfl,k13,hO5,hap5,hv5,hC5,hde5,hEx⟩:=hcut;obtain⟨wb,hwb⟩: ∃wb,wb=wc:=⟨_,rfl⟩;subst hwb;replace k4:=k4.ext hEx;replace k5:=k5.ext hEx;have hEy:=hEw.trans hEx;have hv6: ∃I',Hv (N+257) P5 B I':=by obtain⟨I',h⟩:=hv5;exact⟨I',h.wide (by omega)⟩
       have Hv6:=Lib.hid hv6;have Hd5:=Lib.hid (show P5.dead=false by rw[hde5];exact hdead);clear hv5 hv6 hde5 c3 l3 l2 l5 hld hszw;have hlc:=zj k13 (za P5 M5);have hno:=qX (ze P5 M5) (za _ _) (zg _ _) 0 wb;go_wp2_with fail;go_at_call 34;refine hno.mono ?_;rintro e9 w9 ⟨rfl,hE9⟩;clear hlc hno;obtain⟨hst,hst2⟩:=yh (xs:=ze P5 M5) (k4.ext hE9) rfl (k5.ext hE9) rfl (za _ _) (zg _ _) (by omega) 0 0;have hb2:=Hb2.out;go_wp2_with fail;exact yV (hO5.ext hE9) hap5 Hv6.out hC5 (fun _=>Hd5.out) (hEy.trans hE9) (k4.ext hE9) (k5.ext hE9) (by omega) (by omega) rfl rfl rfl
     ·skip
      have hlc:=zj k2 (za P M);have hno:=xZ (ze P M) (za _ _) (zg _ _) 14 w2;go_wp2_with fail;go_at_call 31;refine hno.mono ?_;rintro e9 w9 ⟨rfl,hE9⟩;clear hlc hno;obtain⟨hst,hst2⟩:=yh (xs:=ze P M) (k4.ext hE9) rfl (k5.ext hE9) rfl (za _ _) (zg _ _) (by omega) 14 0;have hb2:=Hb2.out;go_wp2_with fail;exact yV (hO2.ext hE9) Hap.out ⟨I,Hv0.out.wide (by omega)⟩ rfl (fun _=>hdead) (hEw.trans hE9) (k4.ext hE9) (k5.ext hE9) (by omega) (by omega) rfl rfl rfl
     ·skip
      have hlc:=zj k2 (za P M);have hno:=xZ (ze P M) (za _ _) (zg _ _) 16 w2;go_wp2_with fail;go_at_call 31;refine hno.mono ?_;rintro e9 w9 ⟨rfl,hE9⟩;clear hlc hno;obtain⟨hst,hst2⟩:=yh (xs:=ze P M) (k4.ext hE9) rfl (k5.ext hE9) rfl (za _ _) (zg _ _) (by omega) 16 0;have hb2:=Hb2.out;go_wp2_with fail;exact yV (hO2.ext hE9) Hap.out ⟨I,Hv0.out.wide (by omega)⟩ rfl (fun _=>hdead) (hEw.trans hE9) (k4.ext hE9) (k5.ext hE9) (by omega) (by omega) rfl rfl rfl
    ·skip
     have hlc:=zj k2 (za P M);have hno:=qX (ze P M) (za _ _) (zg _ _) z0 Wa;go_wp2_with fail;go_at_call 34;refine hno.mono ?_;rintro e9 w9 ⟨rfl,hE9⟩;clear hlc hno;obtain⟨hst,hst2⟩:=yh (xs:=ze P M) (k4.ext hE9) rfl (k5.ext hE9) rfl (za _ _) (zg _ _) (by omega) 0 z0;have hb2:=Hb2.out;go_wp2_with fail;exact yV (hO.ext hE9) Hap.out ⟨I,Hv0.out.wide (by omega)⟩ rfl (fun _=>hdead) (hE.trans hE9) (k4.ext hE9) (k5.ext hE9) (by omega) (by omega) rfl rfl rfl
    ·have hzt:zr=false:=by rw[Hzr.out];rfl
     have hi:i<ob.d:=by
      rcases Hx.out with⟨hf,_⟩|⟨_,hi,_⟩
      ·rw[hf]at hzt;cases hzt
      ·exact hi
     have Hi:=Lib.hid hi;have l5:=k5.lt;have hszw:=hE.size_le;have hb2:=Hb2.out;obtain⟨w2,hw2'⟩: ∃w2,w2=Wa:=⟨_,rfl⟩;subst hw2';have hEw:=hE;have l2:=k2.lt;have hld:=jy (N:=w2.heap.size) (S:= []) k2.drew (za P M) l2 (by simp);clear hzt hi;go_upto_region 24 with fail;go_cut [15,16] (fun s13 s14 wx=> ∃(x13:Nat) (P5:Hpl) (M5:Hmm),s13= .pointer (some ⟨x13,0,none⟩)∧s14= .int .i64 0∧Blk wx x13 38 (ze P5 M5)∧HO wx 0 P5 M5∧Ap P5 M5∧(∃I',Hv N P5 B I')∧P5.C=P.C∧P5.dead=P.dead∧Ext w2 wx)
     case first=>
      refine zn (w2.heap.size) [] (.take 0 (.take 1 (.take 2 (.take 3 (.take 7 (.take 8 (.take 9 (.take 10 (.take 11 (.alt 4 (.take 5 (.take 6 (.alt 12 (.take 13 (.take 14 (.take 15 (.alt 16 (.alt 17 (.take 18 .done) .none) .none)))) (.alt 16 (.alt 12 (.take 13 (.take 14 (.take 15 (.alt 17 (.take 18 .done) .none)))) .none) .none)))) (.alt 16 (.alt 4 (.take 5 (.take 6 (.alt 12 (.take 13 (.take 14 (.take 15 (.alt 17 (.take 18 .done) .none)))) .none))) .none) .none))))))))))) Tryz.mixed (by kernel_rfl) ?_;intro hx;iterate 9 (first|refine jTN hx ?_ (hv:=by intro _ hc;have hcl:=hld _ hc;go_simp;(try go_ints);exact rfl)|refine jTS ?_)
      refine jCN hx (fun K hK=> ?_) ?_;go_simp;go_at_call 38;refine(jf P M ka _ _ (hO.ext jX) Hka.out Hrl.out).mono ?_;rintro e w1 ⟨rfl,hEa⟩;have hzA:=hEa.size_le;(try simp at hzA);first|(replace k13:=k13.ext hEa)|skip
      refine hK _ _ ((hEa).bel _) ?_;clear hK hx;intro hx;refine jp ?_;iterate 2 (first|refine jTN hx ?_ (hv:=by intro _ hc;have hcl:=hld _ hc;go_simp;(try go_ints);exact rfl)|refine jTS ?_)
      refine jCN hx (fun K hK=> ?_) ?_;go_simp;go_at_call 69;refine(zak N B P M I T ob t i _ _ (hO.ext jX) Hv0.out HT.out Hob.out Ht.out hdead Hi.out).mono ?_;rintro e w1 ⟨P5,M5,rfl,hH,hde5⟩;have hEc:=hH.ex;have hzG:=hEc.size_le;(try simp at hzG);first|(have hst:=zO (k13.ext hEc) rfl (za P5 M5) (zg P5 M5);replace k13:=k13.ext hEc)|(have hst:=fun zs hz=>zT w1 zs (ze P5 M5) hz (za P5 M5) (zg P5 M5));have hsz:=za P5 M5
      refine hK _ _ ((hH.ex).bel _) ?_;clear hK hx;intro hx;refine jp ?_;iterate 3 (first|refine jTN hx ?_ (hv:=by intro _ hc;have hcl:=hld _ hc;go_simp;(try go_ints);exact rfl)|refine jTS ?_)
      refine jTC (fun K hK=> ?_)
      skip
      go_simp;first|refine hK _ _ jN ?_|refine hK undef _ jN ?_
      clear hK;intro hr;first|(have k13:=zE hr)|(have k13:=zI hr)
      replace hx:=hx.trans hr;clear hr;refine jp ?_;refine yl hx (fun K hK=> ?_)
      skip
      go_simp;refine hK _ ((by first|exact xr (by omega)|exact xr (by simp;omega)|exact Bel.alloc1 (by omega)|exact Bel.alloc1 (by simp;omega))) ?_;clear hK hx;intro hx;first|refine jTN hx ?_ (hv:=by intro _ hc;have hcl:=hld _ hc;go_simp;(try go_ints);exact rfl)|refine jTS ?_
      refine zi ?_;rotate_left;refine jTC (fun K hK=> ?_)
      skip
      go_simp;first|refine hK _ _ jN ?_|refine hK undef _ jN ?_
      clear hK;intro hr;first|(have k13:=zE hr)|(have k13:=zI hr)
      replace hx:=hx.trans hr;clear hr;refine jp ?_;refine jCN hx (fun K hK=> ?_);go_simp;go_at_call 69;refine(zak N B P M I T ob t i _ _ (hO.ext jX) Hv0.out HT.out Hob.out Ht.out hdead Hi.out).mono ?_;rintro e w1 ⟨P5,M5,rfl,hH,hde5⟩;have hEc:=hH.ex;have hzG:=hEc.size_le;(try simp at hzG);first|(have hst:=zO (k13.ext hEc) rfl (za P5 M5) (zg P5 M5);replace k13:=k13.ext hEc)|(have hst:=fun zs hz=>zT w1 zs (ze P5 M5) hz (za P5 M5) (zg P5 M5));have hsz:=za P5 M5
      refine hK _ _ ((hH.ex).bel _) ?_;clear hK hx;intro hx;refine jp ?_;iterate 3 (first|refine jTN hx ?_ (hv:=by intro _ hc;have hcl:=hld _ hc;go_simp;(try go_ints);exact rfl)|refine jTS ?_)
      refine yl hx (fun K hK=> ?_)
      skip
      go_simp;refine hK _ ((by first|exact xr (by omega)|exact xr (by simp;omega)|exact Bel.alloc1 (by omega)|exact Bel.alloc1 (by simp;omega))) ?_;clear hK hx;intro hx;first|refine jTN hx ?_ (hv:=by intro _ hc;have hcl:=hld _ hc;go_simp;(try go_ints);exact rfl)|refine jTS ?_
      refine zi ?_;rotate_left;refine jTC (fun K hK=> ?_)
      skip
      go_simp;first|refine hK _ _ jN ?_|refine hK undef _ jN ?_
      clear hK;intro hr;first|(have k13:=zE hr)|(have k13:=zI hr)
      replace hx:=hx.trans hr;clear hr;refine jp ?_;refine jCN hx (fun K hK=> ?_);go_simp;go_at_call 38;refine(jf P M ka _ _ (hO.ext jX) Hka.out Hrl.out).mono ?_;rintro e w1 ⟨rfl,hEa⟩;have hzA:=hEa.size_le;(try simp at hzA);first|(replace k13:=k13.ext hEa)|skip
      refine hK _ _ ((hEa).bel _) ?_;clear hK hx;intro hx;refine jp ?_;iterate 2 (first|refine jTN hx ?_ (hv:=by intro _ hc;have hcl:=hld _ hc;go_simp;(try go_ints);exact rfl)|refine jTS ?_)
      refine jCN hx (fun K hK=> ?_);go_simp;go_at_call 69;refine(zak N B P M I T ob t i _ _ (hO.ext jX) Hv0.out HT.out Hob.out Ht.out hdead Hi.out).mono ?_;rintro e w1 ⟨P5,M5,rfl,hH,hde5⟩;have hEc:=hH.ex;have hzG:=hEc.size_le;(try simp at hzG);first|(have hst:=zO (k13.ext hEc) rfl (za P5 M5) (zg P5 M5);replace k13:=k13.ext hEc)|(have hst:=fun zs hz=>zT w1 zs (ze P5 M5) hz (za P5 M5) (zg P5 M5));have hsz:=za P5 M5
      refine hK _ _ ((hH.ex).bel _) ?_;clear hK hx;intro hx;refine jp ?_;iterate 3 (first|refine jTN hx ?_ (hv:=by intro _ hc;have hcl:=hld _ hc;go_simp;(try go_ints);exact rfl)|refine jTS ?_)
      refine yl hx (fun K hK=> ?_)
      skip
      go_simp;refine hK _ ((by first|exact xr (by omega)|exact xr (by simp;omega)|exact Bel.alloc1 (by omega)|exact Bel.alloc1 (by simp;omega))) ?_;clear hK hx;intro hx;first|refine jTN hx ?_ (hv:=by intro _ hc;have hcl:=hld _ hc;go_simp;(try go_ints);exact rfl)|refine jTS ?_
      refine zi ?_;rotate_left
      all_goals
       go_wp2_with fail;go_meet
       first
        |(have k14:=k13
          exact⟨_,P5,M5,rfl,rfl,setRow_heap _ _ _ (ze P5 M5) 38 (0,0) k14,hH.ho.bx k14 (zD _ _ _),hH.ap,hH.hv,hH.cf,hde5,yM (Ext.refl w2) (zY hx)⟩)
        |exact⟨_,P5,M5,rfl,rfl,Blk.new rfl,hH.ho.ext (Ext.alloc (Ext.refl _) _),hH.ap,hH.hv,hH.cf,hde5,yM (Ext.refl w2) (zY hx)⟩
     case rest=>
      obtain⟨x13,P5,M5,rfl,rfl,k13,hO5,hap5,hv5,hC5,hde5,hEx⟩:=hcut;obtain⟨wb,hwb⟩: ∃wb,wb=wc:=⟨_,rfl⟩;subst hwb;replace k4:=k4.ext hEx;replace k5:=k5.ext hEx;have hEy:=hEw.trans hEx;have hv6: ∃I',Hv (N+257) P5 B I':=by obtain⟨I',h⟩:=hv5;exact⟨I',h.wide (by omega)⟩
      have Hv6:=Lib.hid hv6;have Hd5:=Lib.hid (show P5.dead=false by rw[hde5];exact hdead);clear hv5 hv6 hde5 c3 l3 l2 l5 hld hszw;have hlc:=zj k13 (za P5 M5);have hno:=qX (ze P5 M5) (za _ _) (zg _ _) 0 wb;go_wp2_with fail;go_at_call 34;refine hno.mono ?_;rintro e9 w9 ⟨rfl,hE9⟩;clear hlc hno;obtain⟨hst,hst2⟩:=yh (xs:=ze P5 M5) (k4.ext hE9) rfl (k5.ext hE9) rfl (za _ _) (zg _ _) (by omega) 0 0;have hb2:=Hb2.out;go_wp2_with fail;exact yV (hO5.ext hE9) hap5 Hv6.out hC5 (fun _=>Hd5.out) (hEy.trans hE9) (k4.ext hE9) (k5.ext hE9) (by omega) (by omega) rfl rfl rfl
end Go.Proofs.YtopcdfbplknmlaaGreat
