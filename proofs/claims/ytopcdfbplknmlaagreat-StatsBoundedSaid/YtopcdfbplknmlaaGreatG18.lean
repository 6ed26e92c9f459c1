/- Part of the proof of the claim: walks and plain laws; each theorem states its own conditions. -/
import Derived.Test.YtopcdfbplknmlaaGreatL
import Derived.Test.YtopcdfbplknmlaaGreatG17
set_option linter.all false
set_option maxHeartbeats 4000000
set_option maxRecDepth 100000
namespace Go.Proofs.YtopcdfbplknmlaaGreat
open Go.RowKit Go.Draw
def zi9(w:World)(N B:Nat)(P:Hpl)(r:Ending)(w':World):Prop:= ∃(P':Hpl) (M':Hmm),r= .returned (.tuple #[.agg (ze P' M'),.int .i64 0])∧HpE w w' N B P P' M'∧P'.dead=P.dead
attribute [local go_sem↓] yg yx in
theorem znf{Q:Ending->World->Prop}{a:Act}{W:World}{g8:Nat}{xs:Array Value}{t9:Value}(hd:a.defers= [])(h8:a.tmps[8]?.getD undef= .pointer (some ⟨g8,0,none⟩))(h9:a.tmps[9]?.getD undef=t9)
 (k8:Blk W g8 38 xs) (h:xs.size=22) (hQ:Q (.returned (.tuple #[.agg xs,t9])) W):bodyPost Tryz.prog Tryz.f68 Q Exit.ret a W:=by
 have hl:=zj k8 h;exact bodyPost_ret (v:= .tuple #[.agg xs,t9]) (by simp[results,Tryz.results68,h8,h9,go_sem,hl]) hd hQ
theorem zng{w W:World}{N B b8 b12:Nat}{P P5:Hpl}{M5:Hmm}{a:Act}(h:AlX w b8 b12 P5 M5 W)(hv: ∃I,Hv N P5 B I)(hC:P5.C=P.C)(hde:P5.dead=P.dead∧P5.us=P.us)(hb:w.heap.size<=b8)(hd:a.defers= [])(h8:a.tmps[8]?.getD undef= .pointer (some ⟨b8,0,none⟩))(h9:a.tmps[9]?.getD undef= .int .i64 0):
 bodyPost Tryz.prog Tryz.f68 (zi9 w N B P) Exit.ret a (W.setRow b8 (ze P5 M5)):=by
 have e6:=zD W b8 (ze P5 M5);have k6a:Blk (W.setRow b8 (ze P5 M5)) b8 38 (ze P5 M5):=setRow_heap W b8 _ (ze P5 M5) 38 (0,0) h.k6;exact znf hd h8 h9 k6a (za _ _) ⟨P5,M5,rfl,HpE.hp ⟨h.ho,h.gw,h.gf,h.ap,h.bz,hv,hC,hde.2,h.ex⟩ h.k6 e6 hb,hde.1⟩
attribute [local go_sem↓] yg yx in
theorem zkp{Q:Ending->World->Prop}{a:Act}{W:World}{g8:Nat}{xs:Array Value}{t9:Value}(hd:a.defers= [])(h8:a.tmps[8]?.getD undef= .pointer (some ⟨g8,0,none⟩))(h9:a.tmps[9]?.getD undef=t9)
 (k8:Blk W g8 38 xs) (h:xs.size=22) (hQ:Q (.returned (.tuple #[.agg xs,t9])) W):bodyPost Tryz.prog Tryz.f69 Q Exit.ret a W:=by
 have hl:=zj k8 h;exact bodyPost_ret (v:= .tuple #[.agg xs,t9]) (by simp[results,Tryz.results69,h8,h9,go_sem,hl]) hd hQ
theorem zkq{w W:World}{N B b8 b12:Nat}{P P5:Hpl}{M5:Hmm}{a:Act}(h:AlX w b8 b12 P5 M5 W)(hv: ∃I,Hv N P5 B I)(hC:P5.C=P.C)(hde:P5.dead=P.dead∧P5.us=P.us)(hb:w.heap.size<=b8)(hd:a.defers= [])(h8:a.tmps[8]?.getD undef= .pointer (some ⟨b8,0,none⟩))(h9:a.tmps[9]?.getD undef= .int .i64 0):
 bodyPost Tryz.prog Tryz.f69 (zi9 w N B P) Exit.ret a (W.setRow b8 (ze P5 M5)):=by
 have e6:=zD W b8 (ze P5 M5);have k6a:Blk (W.setRow b8 (ze P5 M5)) b8 38 (ze P5 M5):=setRow_heap W b8 _ (ze P5 M5) 38 (0,0) h.k6;exact zkp hd h8 h9 k6a (za _ _) ⟨P5,M5,rfl,HpE.hp ⟨h.ho,h.gw,h.gf,h.ap,h.bz,hv,hC,hde.2,h.ex⟩ h.k6 e6 hb,hde.1⟩
theorem AlX.word{w w1:World}{b6 b12:Nat}{P:Hpl}{M:Hmm}(h:AlX w b6 b12 P M w1)(t:Nat)(z:Int):AlX w b6 b12 {P with S:=⟨P.S.sh,P.S.ws.set t z,P.S.fs⟩} M (w1.setCell ⟨M.gW,t,none⟩ (.int .u64 z)):=
 h.sw (But.setCell (But.refl _ _) (by simp) _) (h.ho.sp.word t z) (by simp) rfl rfl
theorem AlX.sets{w w1 w2:World}{b6 b12:Nat}{P:Hpl}{M:Hmm}{As:Option Addr}{cs:Nat}{ps:List (St×Value)}(h:AlX w b6 b12 P M w1)(hB:But [b12] w1 w2)(hk:Blk w2 b12 38 (ze {P with ss:=ps.map (·.1)} {M with As:=As,cs:=cs,ps:=ps}))(hs:SetO w1 0 As cs ps)(h1:w.heap.size<=b12)(h2:b6≠b12):
 AlX w b6 b12 {P with ss:=ps.map (·.1)} {M with As:=As,cs:=cs,ps:=ps} w2:=by
 have ho:=h.ho.bx h.k12 hB;exact⟨h.k6.but hB (by simp;omega),hk,⟨ho.ru,ho.sp,ho.bo,hs.hp h.k12 hB,rfl,ho.ro⟩,h.gw,h.gf,h.ap,h.bz.hp h.k12 hB,But.ext h.ex hB (fun q hq=>by have:=List.mem_singleton.1 hq;omega)⟩
attribute [local go_sem↓] yg qW xd yx in
attribute [local go_sem] xe in
theorem zak(N B:Nat)(P:Hpl)(M:Hmm)(I:List In)(T:In)(ob:Ob)(t i:Nat)(v:Int)(w:World)(h:HO w 0 P M)(hv:Hv N P B I)(hT:T∈I)(hob:ob∈T.obs)(ht:zy T.x.c B ob.o=t)(hdead:P.dead=false)(hi:i<ob.d):
 Calls Tryz.prog 69 #[.agg (ze P M),.int .i64 t,.int .i64 i,.int .u64 v] w (zi9 w N B P):=by
 obtain⟨x,hx⟩: ∃x,zy T.x.c B (ob.o+((1+ob.r)+i))=x:=⟨_,rfl⟩;have hpl:=fun(w':World) (hE:Ext w w')=>zd8 N B P M I T ob t i w' (h.ext hE) hv hT hob ht hdead hi
 rw[hx]at hpl;have hbn:1+ob.r+i<ob.n:=by unfold Ob.n;omega
 have hxl:x<P.S.ws.length:=by
  have:=(hv.vh.hok.lay.owner hT hob hbn);obtain⟨_,_,_,_,_,hlt⟩:=this;rw[yn hbn,hx]at hlt;exact hlt
 have hvw:Hv N {P with S:=⟨P.S.sh,P.S.ws.set x v,P.S.fs⟩} B I:=by
  have:=hv.vh.writeD hT hob hi v;rw[yn hbn,hx]at this;exact⟨this,hv.wf,hv.ok,hv.ql,hv.bt,hv.s0,hv.ct⟩
 have Hvw:=Lib.hid hvw;have Hsm:=Lib.hid hv.gd.sm;have hw2:=hv.gd.sm.w2;have hxI:(x:Int)<P.S.ws.length:=by omega
 obtain⟨z0,hz0⟩: ∃z0,P.S.ws[x]? =some z0:=⟨_,List.getElem?_eq_getElem hxl⟩;have Hz0:=Lib.hid hz0;clear hx hv hvw hi ht hbn hz0;go_enter Tryz.func69,Tryz.ntmps69;go_upto_region 1 with fail;refine za0 (fun W k4 k8 hE0=> ?_);obtain⟨b4,hb4⟩: ∃b,w.heap.size=b:=⟨_,rfl⟩;rw[hb4]at k4 k8|-;have Hb4:=Lib.hid hb4;clear hb4;have hszW:=hE0.size_le;have hlc:=zj k4 (za P M);have hp1:=hpl W hE0;clear hpl;go_wp2_with fail;go_at_call 83;refine hp1.mono ?_;rintro e w1 ⟨rfl,hE1⟩;clear hp1 hlc;have k4a:=k4.ext hE1;have hE01:=hE0.trans hE1;have hlc:=zj k4a (za P M);have hszw1:=hE01.size_le;go_wp2_with fail;go_at_call 39;refine(qo P M w1 (h.ext hE01) Hsm.out).mono ?_;rintro e w2 ⟨M1,rfl,hO,hE2,hap⟩;clear hlc;have hst:=fun zs hz=>zT w2 zs (ze P M1) hz (za P M1) (zg P M1)
 have hsz:=za P M1;have hlt8:=((k8.ext hE1).ext hE2).lt;go_upto_region 5 with fail;clear hst hsz;refine yN (fun W3 k12 hE3=> ?_);obtain⟨b12,hb12⟩: ∃b,w2.heap.size=b:=⟨_,rfl⟩;rw[hb12]at k12 hlt8|-;clear hb12;have hb4:=Hb4.out;have hX:AlX w (b4+1) b12 P M1 W3:=⟨((k8.ext hE1).ext hE2).ext hE3,k12,(hO.ext hE3).base_ (Nat.zero_le _),by have:=hO.sp.lt;omega,by have:=hO.sp.lt;omega,hap,((hO.ext hE3).bo).base_ hszw1,(hE01.trans hE2).trans hE3⟩;clear k4 k8 k4a k12 hO hap hE0 hE1 hE2 hE3 hE01 h;have k12:=hX.k12;have c4:W3.cell? ⟨b12,4,none⟩=some (.slice (some ⟨M1.gW,0,none⟩) P.S.ws.length M1.cW):=k12.cell 4;have l12:=k12.lt;obtain⟨bW,oW,he,z1⟩:=xw hX.ho.sp.rd.W Hz0.out;simp only[Option.some.injEq,Addr.mk.injEq,and_true]at he;obtain⟨rfl,rfl⟩:=he;simp only[Nat.zero_add]at z1;have fW:=(zz hX.ho.sp.W).2;have lW:=zh z1;go_upto_region 6 with fail;clear c4 l12 z1 fW lW;have hX2:=hX.word x v;generalize W3.setCell ⟨M1.gW,x,none⟩ (.int .u64 v)=W4 at*;obtain⟨P5,hP5⟩: ∃P5:Hpl,P5={P with S:=⟨P.S.sh,P.S.ws.set x v,P.S.fs⟩}:=⟨_,rfl⟩;rw[<-hP5]at hX2;have hv5:=Hvw.out;rw[<-hP5]at hv5;have HP5:=Lib.hid hP5;have Hv5:=Lib.hid hv5;clear hP5 hv5 hX k12;have hlc:=zj hX2.k12 (za P5 M1);have hst:=zO hX2.k6 rfl (za P5 M1) (zg P5 M1);have hsz:=za P5 M1;go_wp2_with fail;exact zkq hX2 ⟨I,Hv5.out⟩ (by rw[HP5.out]) (by rw[HP5.out];exact⟨rfl,rfl⟩) (by omega) rfl rfl rfl
attribute [local go_sem↓] yg qW xd yx in
attribute [local go_sem] xe in
theorem kG(N B:Nat)(P:Hpl)(M:Hmm)(I:List In)(T:In)(ob:Ob)(t i:Nat)(v:Int)(w:World)(h:HO w 0 P M)(hv:Hv N P B I)(hT:T∈I)(hob:ob∈T.obs)(ht:zy T.x.c B ob.o=t)(hdead:P.dead=false)(hi:i<ob.r)
 (hp:v=0∨∃T'∈I,∃ob'∈T'.obs,v=((zy T'.x.c B ob'.o:Nat):Int)+1):
 Calls Tryz.prog 68 #[.agg (ze P M),.int .i64 t,.int .i64 i,.int .u64 v] w (zi9 w N B P):=by
 obtain⟨x,hx⟩: ∃x,zy T.x.c B (ob.o+(1+i))=x:=⟨_,rfl⟩;have hpl:=fun(w':World) (hE:Ext w w')=>zf9 N B P M I T ob t i w' (h.ext hE) hv hT hob ht hdead hi
 rw[hx]at hpl;have hbn:1+i<ob.n:=by unfold Ob.n;omega
 have hfx:(zZ B T.x.c ob).f (1+i)=x:=by rw[yn hbn,hx]
 have hl:=hv.vh.hok.lay
 have hxl:x<P.S.ws.length:=by
  obtain⟨_,_,_,_,_,hlt⟩:=hl.owner hT hob hbn;rw[hfx]at hlt;exact hlt
 have hptr:Ptr (aos B I) v:=by
  rcases hp with rfl|⟨T',hT',ob',hob',e⟩
  ·exact .inl rfl
  ·refine .inr ⟨zZ B T'.x.c ob',zK.2 ⟨T',hT',ob',hob',rfl⟩,?_⟩
   rw[yn (b:=ob') (k:=0) (by unfold Ob.n;omega)];exact e
 have had:=hl.ad hptr
 have hvw:=fun sets' (hw:WfS sets') (hn: ∀f g s,inS sets' f g s↔inS P.ss f g s∨(s=x∧zev ⟨P.S.sh,P.S.ws.set x v,P.S.fs⟩ B x f g))=>by
  have:=hv.vh.write hT hob hi hptr (sets':=sets') hw (by rw[hfx];exact hn);rw[hfx]at this;exact(⟨this,hw,hv.ok,hv.ql,hv.bt,hv.s0,hv.ct⟩:Hv N {P with S:=⟨P.S.sh,P.S.ws.set x v,P.S.fs⟩,ss:=sets'} B I)
 have hok':=(hv.vh.hok.write hT hob (k:=1+i) ⟨by omega,hbn⟩ (v:=v) (fun _=>hptr)).1;rw[hfx]at hok';have Hok:=Lib.hid hok';have Hwf:=Lib.hid hv.wf;have Hvw:=Lib.hid hvw;have Hsm:=Lib.hid hv.gd.sm;have hw2:=hv.gd.sm.w2;have hwl:=zav hl.ch;have hxI:(x:Int)<P.S.ws.length:=by omega
 obtain⟨z0,hz0⟩: ∃z0,P.S.ws[x]? =some z0:=⟨_,List.getElem?_eq_getElem hxl⟩;have Hz0:=Lib.hid hz0
 have his:v≠0-> ∃u:Nat,v=(u:Int)+1∧u<P.S.ws.length∧∀w',Ext w w'->Calls Tryz.prog 84 #[.agg (ze P M),.int .i64 u] w' fun r w''=>r= .returned (.bool true)∧Ext w' w'':=by
  intro h0;rcases hp with e|⟨T',hT',ob',hob',e⟩
  ·exact absurd e h0
  ·obtain⟨_,_,_,_,_,hlt⟩:=hl.owner hT' hob' (k:=0) (by unfold Ob.n;omega)
   rw[yn (b:=ob') (k:=0) (by unfold Ob.n;omega)]at hlt;exact⟨_,e,hlt,fun w' hE=>zhp N B P M I T' ob' _ w' (h.ext hE) hv hT' hob' rfl⟩
 have His:=Lib.hid his;have Had:=Lib.hid had;clear hx hv hvw hi ht hbn hz0 hfx hl hptr had hok' hp his hob;go_enter Tryz.func68,Tryz.ntmps68;go_upto_region 1 with fail;refine za0 (fun W k4 k8 hE0=> ?_);obtain⟨b4,hb4⟩: ∃b,w.heap.size=b:=⟨_,rfl⟩;rw[hb4]at k4 k8|-;have Hb4:=Lib.hid hb4;clear hb4;have hszW:=hE0.size_le;have hlc:=zj k4 (za P M);have hp1:=hpl W hE0;clear hpl;go_wp2_with fail;go_at_call 83;refine hp1.mono ?_;rintro e w1 ⟨rfl,hE1⟩;clear hp1 hlc;have k4a:=k4.ext hE1;have hE01:=hE0.trans hE1;go_upto_region 4 with fail;go_cut [42] (fun s wx=>s= .bool false∧Ext w1 wx)
 case first=>
  by_cases h0:v=0
  ·subst h0
   go_wp2_with fail;go_meet;exact⟨rfl,Ext.refl _⟩
  ·obtain⟨u,hu,hul,hcl⟩:=His.out h0
   have q1:(v !=0)=true:=by simpa using h0
   have q2:((u:Int)+1 !=0)=true:=by rw[<-hu];exact q1
   have q3:decide ((P.S.ws.length:Int)<(u:Int)+1)=false:=decide_eq_false (by omega);have q4:(u:Int)+1-1=u:=by omega
   clear h0 q1;subst hu;have r4:w1.cell? ⟨b4,4,none⟩=some (.slice (some ⟨M.gW,0,none⟩) P.S.ws.length M.cW):=k4a.cell 4;have l4:=k4a.lt;have hlc:=zj k4a (za P M);have hc1:=hcl w1 hE01;clear hcl;go_wp2_with fail;go_at_call 84;refine hc1.mono ?_;rintro e w2 ⟨rfl,hE2⟩;clear hc1 hlc r4 l4;go_wp2_with fail;go_meet;exact⟨rfl,hE2⟩
 case rest=>
  obtain⟨rfl,hEc⟩:=hcut;obtain⟨wa,hwa⟩: ∃wa,wa=wc:=⟨_,rfl⟩;subst hwa;replace k4a:=k4a.ext hEc;replace hE01:=hE01.trans hEc;have k8a:=(k8.ext hE1).ext hEc;have hlc:=zj k4a (za P M);have hszw1:=hE01.size_le;go_wp2_with fail;go_at_call 39;refine(qo P M wa (h.ext hE01) Hsm.out).mono ?_;rintro e w2 ⟨M1,rfl,hO,hE2,hap⟩;clear hlc;have hst:=fun zs hz=>zT w2 zs (ze P M1) hz (za P M1) (zg P M1)
  have hsz:=za P M1;have hlt8:=(k8a.ext hE2).lt;go_upto_region 9 with fail;clear hst hsz;refine yN (fun W3 k12 hE3=> ?_);obtain⟨b12,hb12⟩: ∃b,w2.heap.size=b:=⟨_,rfl⟩;rw[hb12]at k12 hlt8|-;clear hb12;have hb4:=Hb4.out;have hX:AlX w (b4+1) b12 P M1 W3:=⟨(k8a.ext hE2).ext hE3,k12,(hO.ext hE3).base_ (Nat.zero_le _),by have:=hO.sp.lt;omega,by have:=hO.sp.lt;omega,hap,((hO.ext hE3).bo).base_ hszw1,(hE01.trans hE2).trans hE3⟩;clear k4 k8 k8a k4a k12 hO hap hE0 hE1 hE2 hE3 hE01 h hEc;have k12:=hX.k12;have c4:W3.cell? ⟨b12,4,none⟩=some (.slice (some ⟨M1.gW,0,none⟩) P.S.ws.length M1.cW):=k12.cell 4;have l12:=k12.lt;obtain⟨bW,oW,he,z1⟩:=xw hX.ho.sp.rd.W Hz0.out;simp only[Option.some.injEq,Addr.mk.injEq,and_true]at he;obtain⟨rfl,rfl⟩:=he;simp only[Nat.zero_add]at z1;have fW:=(zz hX.ho.sp.W).2;have lW:=zh z1;go_upto_region 10 with fail;clear c4 l12 z1 fW lW;have hX2:=hX.word x v;generalize W3.setCell ⟨M1.gW,x,none⟩ (.int .u64 v)=W4 at*;obtain⟨P5,hP5⟩: ∃P5:Hpl,P5={P with S:=⟨P.S.sh,P.S.ws.set x v,P.S.fs⟩}:=⟨_,rfl⟩;rw[<-hP5]at hX2;have hS5:P5.S=⟨P.S.sh,P.S.ws.set x v,P.S.fs⟩:=by rw[hP5]
  have hss5:P5.ss=P.ss:=by rw[hP5]
  have hok5:=Hok.out;rw[<-hS5]at hok5
  have hw5:P5.S.w x=v:=by
   rw[hS5,zf8 P.S x x v (by omega),if_pos rfl]
  have had5:v=0∨∃u:Nat,v=(u:Int)+1∧u<P5.S.ws.length:=by
   have:=Had.out;rw[hS5];show v=0∨∃u:Nat,v=(u:Int)+1∧u<(P.S.ws.set x v).length;rw[List.length_set];exact this
  have hwf5:WfS (M1.ps.map (·.1)):=by rw[hX2.ho.hp,hss5];exact Hwf.out
  have hnt:=zbr (some ⟨M1.gW,0,none⟩) (some ⟨M1.gF,0,none⟩) M1.As M1.cW M1.cF M1.cs x B v P5.S (I.map (·.x)) M1.ps W4 hX2.ho.sp.rd hok5.lay.ch hok5.lay.pow hX2.ho.so hwf5 (by rw[hS5];show x<(P.S.ws.set x v).length;rw[List.length_set];omega) hw5 had5;rw[hX2.ho.hp,hss5]at hnt;unfold spV at hnt;have HP5:=Lib.hid hP5;clear hP5 hX k12 hS5 hss5 hok5 hw5 had5 hwf5;have k12:=hX2.k12;have hls:=yd k12 3 3 _ rfl (yH P5 M1);have c8:W4.cell? ⟨b12,8,none⟩=some (.slice M1.As M1.ps.length M1.cs):=k12.cell 8;have l12:=k12.lt;go_wp2_with fail;go_at_call 85;refine hnt.mono ?_;rintro e w5 ⟨ps,As,cs,rfl,hso,⟨hwf,hin⟩,hE5⟩;clear hnt hls c8 l12;have hX3:=hX2.ext hE5;clear hX2 k12;have k12:=hX3.k12;have c8:w5.cell? ⟨b12,8,none⟩=some (.slice M1.As M1.ps.length M1.cs):=k12.cell 8;have l12:=k12.lt;have f12:=k12.froz;go_upto_region 11 with fail;clear c8 l12 f12;have e12:But [b12] w5 (w5.setCell ⟨b12,8,none⟩ (.slice As ps.length cs)):=But.setCell (But.refl _ _) (by simp) _;have k12a:Blk (w5.setCell ⟨b12,8,none⟩ (.slice As ps.length cs)) b12 38 (ze {P5 with ss:=ps.map (·.1)} {M1 with As:=As,cs:=cs,ps:=ps}):=k12.set_ 8 _;have hX4:=hX3.sets e12 k12a hso (by omega) (by omega);generalize w5.setCell ⟨b12,8,none⟩ (.slice As ps.length cs)=W6 at*
  have hin': ∀f g s,inS (ps.map (·.1)) f g s↔inS P.ss f g s∨(s=x∧zev ⟨P.S.sh,P.S.ws.set x v,P.S.fs⟩ B x f g):=by
   intro f g s;rw[hin];have:P5.S=⟨P.S.sh,P.S.ws.set x v,P.S.fs⟩:=by rw[HP5.out]
   rw[this]
  have hv6:=Hvw.out _ hwf hin';obtain⟨P6,hP6⟩: ∃P6:Hpl,P6={P5 with ss:=ps.map (·.1)}:=⟨_,rfl⟩;obtain⟨M6,hM6⟩: ∃M6:Hmm,M6={M1 with As:=As,cs:=cs,ps:=ps}:=⟨_,rfl⟩;rw[<-hP6,<-hM6]at hX4;have hv7:Hv N P6 B I:=by rw[hP6,HP5.out];exact hv6
  have hcd:P6.C=P.C∧(P6.dead=P.dead∧P6.us=P.us):=by rw[hP6,HP5.out];exact⟨rfl,rfl,rfl⟩
  have Hv7:=Lib.hid hv7;have Hcd:=Lib.hid hcd;clear hv6 hv7 hcd hP6 hM6 hin hin' hwf hso hX3 k12 k12a e12;have hlc:=zj hX4.k12 (za P6 M6);have hst:=zO hX4.k6 rfl (za P6 M6) (zg P6 M6);have hsz:=za P6 M6;go_wp2_with fail;exact zng hX4 ⟨I,Hv7.out⟩ Hcd.out.1 Hcd.out.2 (by omega) rfl rfl rfl
def zr5(us:List Bool)(x:Int)(need:Bool)(e:Int):Prop:=(e=0∧((need=false∧x=0)∨∃k:Nat,x=(k:Int)+1∧us[k]? =some true))∨e=14∨e=16
def zq7(w:World)(us:List Bool)(x:Int)(need:Bool)(r:Ending)(w':World):Prop:= ∃e:Int,r= .returned (.int .i64 e)∧zr5 us x need e∧Ext w w'
theorem ya(P:Hpl)(M:Hmm)(x:Int)(need:Bool)(w:World)(h:HO w 0 P M)(hu:P.us.length=32):
 Calls Tryz.prog 36 #[.agg (ze P M),.int .i64 x,.bool need] w (zq7 w P.us x need):=by
 go_enter Tryz.func36,Tryz.ntmps36;go_upto_region 1 with fail;refine yN (fun W k3 hE0=> ?_);obtain⟨b3,hb3⟩: ∃b,w.heap.size=b:=⟨_,rfl⟩;rw[hb3]at k3|-;clear hb3;by_cases h0:x=0
 ·subst h0
  cases need with
  |true=>
   go_wp2_with fail;go_ret;exact⟨16,rfl,.inr (.inr rfl),hE0⟩
  |false=>
   go_wp2_with fail;go_ret;exact⟨0,rfl,.inl ⟨rfl,.inl ⟨rfl,rfl⟩⟩,hE0⟩
 ·have q0:(x==0)=false:=by simpa using h0
  have H0:=Lib.hid h0;clear h0;by_cases h1:x<0
  ·have q1:decide (x<0)=true:=decide_eq_true h1
   clear h1;go_wp2_with fail;go_ret;exact⟨14,rfl,.inr (.inl rfl),hE0⟩
  ·have q1:decide (x<0)=false:=decide_eq_false h1
   by_cases h2:32<x
   ·have q2:decide (32<x)=true:=decide_eq_true h2
    clear h1 h2;go_wp2_with fail;go_ret;exact⟨14,rfl,.inr (.inl rfl),hE0⟩
   ·have q2:decide (32<x)=false:=decide_eq_false h2
    obtain⟨k,rfl⟩: ∃k:Nat,x=(k:Int)+1:=⟨(x-1).toNat,by have:=H0.out;omega⟩;have hk:k<P.us.length:=by omega
    have hkI:(k:Int)<P.us.length:=by omega
    have hk32:k<32:=by omega
    have e1:(k:Int)+1-1=k:=by omega
    obtain⟨u,hku⟩: ∃u,P.us[k]? =some u:=⟨_,List.getElem?_eq_getElem hk⟩;have hO:=h.ext hE0;obtain⟨bU,oU,he,u0⟩:=j7 (Rd.of_own hO.ro.u) hku;have lU:=zh u0;have r9:W.cell? ⟨b3,9,none⟩=some (.slice M.U P.us.length M.cu):=k3.cell 9;rw[he]at r9;have l3:=k3.lt;have Hku:=Lib.hid hku;clear hku he hu h1 h2;cases u with
    |true=>
     go_wp2_with fail;go_ret;exact⟨0,rfl,.inl ⟨rfl,.inr ⟨k,rfl,Hku.out⟩⟩,hE0⟩
    |false=>
     go_wp2_with fail;go_ret;exact⟨14,rfl,.inr (.inl rfl),hE0⟩
theorem zkr(P:Hpl)(M:Hmm)(w:World):Calls Tryz.prog 38 #[.agg (ze P M),.int .i64 0] w fun r w'=>r= .returned (.int .u64 0)∧Ext w w':=by
 go_enter Tryz.func38,Tryz.ntmps38;go_upto_region 1 with fail;refine yN (fun W k3 hE0=> ?_);go_wp2_with fail;go_ret;exact⟨rfl,hE0⟩
theorem jf(P:Hpl)(M:Hmm)(k:Nat)(v:Int)(w:World)(h:HO w 0 P M)(hk:P.rs[k]? =some v)(hr:P.rs.length=32):Calls Tryz.prog 38 #[.agg (ze P M),.int .i64 ((k:Int)+1)] w fun r w'=>r= .returned (.int .u64 v)∧Ext w w':=by
 have hkl:=(List.getElem?_eq_some_iff.1 hk).1;have q0:((k:Int)+1==0)=false:=by rw[beq_eq_false_iff_ne];omega
 have e1:(k:Int)+1-1=k:=by omega
 have hkI:(k:Int)<P.rs.length:=by omega
 have hk32:k<32:=by omega
 go_enter Tryz.func38,Tryz.ntmps38;go_upto_region 1 with fail;refine yN (fun W k2 hE0=> ?_);obtain⟨b2,hb2⟩: ∃b,w.heap.size=b:=⟨_,rfl⟩;rw[hb2]at k2|-;clear hb2;have hO:=h.ext hE0;obtain⟨bR,oR,he,z0⟩:=xw (Rd.of_own hO.ro.r) hk;have lR:=zh z0;have r10:W.cell? ⟨b2,10,none⟩=some (.slice M.R P.rs.length M.cr):=k2.cell 10;rw[he]at r10;have l2:=k2.lt;clear hk hr he;go_wp2_with fail;go_ret;exact⟨rfl,hE0⟩
theorem zd9: ∀(us:List Bool),(xp us us.length).length≠us.length-> ∃k:Nat,us[k]? =some false∧∀j,j<k->us[j]? =some true:=by
 intro us h;by_cases ha: ∀n,n<=us.length-> ∀j,j<n->us[j]? =some true
 ·exfalso
  apply h
  have: ∀n,n<=us.length->(xp us n).length=n:=by
   intro n;induction n with
   |zero=>intro _;rfl
   |succ n ih=>
    intro hn;rw[ze4 (ha (n+1) hn n (by omega)),List.length_append,ih (by omega)];rfl
  exact this _ (Nat.le_refl _)
 ·have hex: ∃k:Nat,us[k]? =some false:=by
   refine Classical.byContradiction fun hn=>ha fun n hn' j hj=> ?_
   obtain⟨b,hb⟩: ∃b,us[j]? =some b:=⟨_,List.getElem?_eq_getElem (by omega)⟩;cases b with
   |true=>exact hb
   |false=>exact absurd ⟨j,hb⟩ hn
  have: ∀n:Nat,(∃k:Nat,k<n∧us[k]? =some false) -> ∃k:Nat,us[k]? =some false∧∀j,j<k->us[j]? =some true:=by
   intro n;induction n with
   |zero=>rintro⟨k,hk,_⟩;omega
   |succ n ih=>
    rintro⟨k,hk,hf⟩;by_cases hs: ∃k':Nat,k'<n∧us[k']? =some false
    ·exact ih hs
    ·refine⟨k,hf,fun j hj=> ?_⟩
     have hkl:=(List.getElem?_eq_some_iff.1 hf).1;obtain⟨b,hb⟩: ∃b,us[j]? =some b:=⟨_,List.getElem?_eq_getElem (by omega)⟩;cases b with
     |true=>exact hb
     |false=>exact absurd ⟨j,by omega,hb⟩ hs
  obtain⟨k,hk⟩:=hex;exact this (k+1) ⟨k,by omega,hk⟩
def zpq(w:World)(us:List Bool)(r:Ending)(w':World):Prop:= ∃z:Bool,r= .returned (.bool z)∧(z=false-> ∃k:Nat,us[k]? =some false∧∀j,j<k->us[j]? =some true)∧Ext w w'
theorem zb3(P:Hpl)(M:Hmm)(w:World)(h:HO w 0 P M)(hu:P.us.length=32):Calls Tryz.prog 55 #[.agg (ze P M)] w (zpq w P.us):=by
 have Hu:=Lib.hid hu;have hu1:P.us.length<=1000:=by omega
 clear hu;go_enter Tryz.func55,Tryz.ntmps55;go_upto_region 1 with fail;refine yN (fun W k1 hE0=> ?_);obtain⟨b1,hb1⟩: ∃b,w.heap.size=b:=⟨_,rfl⟩;rw[hb1]at k1|-;clear hb1;have hO:=h.ext hE0;have r9:W.cell? ⟨b1,9,none⟩=some (.slice M.U P.us.length M.cu):=k1.cell 9;have r10:W.cell? ⟨b1,10,none⟩=some (.slice M.R P.rs.length M.cr):=k1.cell 10;have l1:=k1.lt;have hlv:=za7 M.U M.R M.cu P.rs.length M.cr P.us W (Rd.of_own hO.ro.u) hu1;go_wp2_with fail;go_at_call 72;refine hlv.mono ?_;rintro e w1 ⟨D,d,rfl,hown,hE1⟩;have hll:=kh P.us P.us.length;have Hf:=Lib.hid (zd9 P.us);clear hlv r9 r10 l1;obtain⟨n,hn⟩: ∃n,(xp P.us P.us.length).length=n:=⟨_,rfl⟩;rw[hn]at hll|-;have Hn:=Lib.hid hn;clear hn hown;go_wp2_with fail;go_ret;refine⟨_,rfl,fun hz=>Hf.out ?_,hE0.trans hE1⟩;rw[Hn.out,Hu.out];have:=hz;simp at this;omega
theorem zpr{w:World}{b:Nat}{xs:Array Value}(k:Blk w b 69 xs)(h:xs.size=2)(e v:Int):(yw ⟨b,0,none⟩ [.int .i64 e,.int .u64 v]).run Tryz.prog w= .ok () (w.setCells b 0 [.int .i64 e,.int .u64 v]):=
 yE k 0 _ (by rw[h];simp) (by simp[Value.oneCell'])
theorem zks(z:Bool)(w:World):Calls Tryz.prog 37 #[.bool z] w fun r w'=>(∃v:Int,r= .returned (.int .u64 v))∧w'=w:=by
 go_enter Tryz.func37,Tryz.ntmps37;cases z with
 |true=>
  go_wp2_with fail;go_ret;exact⟨⟨_,rfl⟩,rfl⟩
 |false=>
  go_wp2_with fail;go_ret;exact⟨⟨_,rfl⟩,rfl⟩
theorem zps(P:Hpl)(M:Hmm)(w:World)(h:HO w 0 P M)(hg:P.Gd):Calls Tryz.prog 35 #[.agg (ze P M)] w (zfk w):=by
 have hq1:=hg.sm.q1;have Hq:=Lib.hid hg.sm.q2;clear hg;go_enter Tryz.func35,Tryz.ntmps35;go_upto_region 1 with fail;refine yN (fun W k1 hE0=> ?_);obtain⟨b1,hb1⟩: ∃b,w.heap.size=b:=⟨_,rfl⟩;rw[hb1]at k1|-;clear hb1;have hO:=h.ext hE0;have r6:W.cell? ⟨b1,6,none⟩=some (.slice M.A P.Q.length M.c):=k1.cell 6;have l1:=k1.lt;have hw:=zg6 M.A M.c M.vs P.Q W hO.bo hq1 Hq.out;go_wp2_with fail;go_at_call 59;refine hw.mono ?_;rintro e w1 ⟨⟨z,rfl⟩,hE1⟩;clear hw r6 l1;go_wp2_with fail;go_ret;exact⟨⟨z,rfl⟩,hE0.trans hE1⟩
def zql(w:World)(xs:Array Value)(e v:Int)(r:Ending)(w':World):Prop:=r= .returned (.tuple #[.agg xs,.agg #[.int .i64 e,.int .u64 v]])∧Ext w w'
attribute [local go_sem↓] yg yx in
theorem zq8{Q:Ending->World->Prop}{a:Act}{W:World}{g4 g5:Nat}{xs:Array Value}{v0 v1:Value}(hd:a.defers= [])(h4:a.tmps[4]?.getD undef= .pointer (some ⟨g4,0,none⟩))(h5:a.tmps[5]?.getD undef= .pointer (some ⟨g5,0,none⟩))
 (k4:Blk W g4 38 xs) (h:xs.size=22) (k5:Blk W g5 69 #[v0,v1]) (hQ:Q (.returned (.tuple #[.agg xs,.agg #[v0,v1]])) W):bodyPost Tryz.prog Tryz.f31 Q Exit.ret a W:=by
 have hl:=zj k4 h;have c5:=k5.cell;exact bodyPost_ret (v:= .tuple #[.agg xs,.agg #[v0,v1]]) (by simp[results,Tryz.results31,h4,h5,go_sem,hl,c5]) hd hQ
attribute [local go_sem↓] yg yx in
theorem zq9{Q:Ending->World->Prop}{a:Act}{W:World}{g4 g5:Nat}{xs:Array Value}{v0 v1:Value}(hd:a.defers= [])(h4:a.tmps[4]?.getD undef= .pointer (some ⟨g4,0,none⟩))(h5:a.tmps[5]?.getD undef= .pointer (some ⟨g5,0,none⟩))
 (k4:Blk W g4 38 xs) (h:xs.size=22) (k5:Blk W g5 69 #[v0,v1]) (hQ:Q (.returned (.tuple #[.agg xs,.agg #[v0,v1]])) W):bodyPost Tryz.prog Tryz.f34 Q Exit.ret a W:=by
 have hl:=zj k4 h;have c5:=k5.cell;exact bodyPost_ret (v:= .tuple #[.agg xs,.agg #[v0,v1]]) (by simp[results,Tryz.results34,h4,h5,go_sem,hl,c5]) hd hQ
attribute [local go_sem↓] yg yx in
theorem zga{Q:Ending->World->Prop}{a:Act}{W:World}{g4 g5:Nat}{xs:Array Value}{v0 v1:Value}(hd:a.defers= [])(h4:a.tmps[4]?.getD undef= .pointer (some ⟨g4,0,none⟩))(h5:a.tmps[5]?.getD undef= .pointer (some ⟨g5,0,none⟩))
 (k4:Blk W g4 38 xs) (h:xs.size=22) (k5:Blk W g5 69 #[v0,v1]) (hQ:Q (.returned (.tuple #[.agg xs,.agg #[v0,v1]])) W):bodyPost Tryz.prog Tryz.f32 Q Exit.ret a W:=by
 have hl:=zj k4 h;have c5:=k5.cell;exact bodyPost_ret (v:= .tuple #[.agg xs,.agg #[v0,v1]]) (by simp[results,Tryz.results32,h4,h5,go_sem,hl,c5]) hd hQ
attribute [local go_sem↓] yg yx in
theorem zgb{Q:Ending->World->Prop}{a:Act}{W:World}{g4 g5:Nat}{xs:Array Value}{v0 v1:Value}(hd:a.defers= [])(h4:a.tmps[4]?.getD undef= .pointer (some ⟨g4,0,none⟩))(h5:a.tmps[5]?.getD undef= .pointer (some ⟨g5,0,none⟩))
 (k4:Blk W g4 38 xs) (h:xs.size=22) (k5:Blk W g5 69 #[v0,v1]) (hQ:Q (.returned (.tuple #[.agg xs,.agg #[v0,v1]])) W):bodyPost Tryz.prog Tryz.f42 Q Exit.ret a W:=by
 have hl:=zj k4 h;have c5:=k5.cell;exact bodyPost_ret (v:= .tuple #[.agg xs,.agg #[v0,v1]]) (by simp[results,Tryz.results42,h4,h5,go_sem,hl,c5]) hd hQ
attribute [local go_sem↓] yg yx in
theorem znh{Q:Ending->World->Prop}{a:Act}{W:World}{g4 g5:Nat}{xs:Array Value}{v0 v1:Value}(hd:a.defers= [])(h4:a.tmps[4]?.getD undef= .pointer (some ⟨g4,0,none⟩))(h5:a.tmps[5]?.getD undef= .pointer (some ⟨g5,0,none⟩))
 (k4:Blk W g4 38 xs) (h:xs.size=22) (k5:Blk W g5 69 #[v0,v1]) (hQ:Q (.returned (.tuple #[.agg xs,.agg #[v0,v1]])) W):bodyPost Tryz.prog Tryz.f20 Q Exit.ret a W:=by
 have hl:=zj k4 h;have c5:=k5.cell;exact bodyPost_ret (v:= .tuple #[.agg xs,.agg #[v0,v1]]) (by simp[results,Tryz.results20,h4,h5,go_sem,hl,c5]) hd hQ
theorem yh{W:World}{b4 b5:Nat}{xs ys zs:Array Value}(k4:Blk W b4 38 ys)(hy:ys.size=22)(k5:Blk W b5 69 zs)(hz:zs.size=2)(hxs:xs.size=22)(h1:xs.all (·.oneCell')=true)(hne:b5≠b4)(e v:Int):
 (yw ⟨b4,0,none⟩ xs.toList).run Tryz.prog W= .ok () (W.setRow b4 xs)∧(yw ⟨b5,0,none⟩ [.int .i64 e,.int .u64 v]).run Tryz.prog (W.setRow b4 xs)= .ok () ((W.setRow b4 xs).setCells b5 0 [.int .i64 e,.int .u64 v]):=by
 refine⟨zO k4 hy hxs h1,zpr (k5.but (zD W b4 xs) (by simpa using hne)) hz e v⟩
theorem vN{W:World}{b4 b5:Nat}{xs ys:Array Value}{z0 z1:Value}(k4:Blk W b4 38 ys)(k5:Blk W b5 69 #[z0,z1])(hne:b5≠b4)(e v:Int):
 Blk ((W.setRow b4 xs).setCells b5 0 [.int .i64 e,.int .u64 v]) b4 38 xs∧Blk ((W.setRow b4 xs).setCells b5 0 [.int .i64 e,.int .u64 v]) b5 69 #[.int .i64 e,.int .u64 v]∧
  But [b5] (W.setRow b4 xs) ((W.setRow b4 xs).setCells b5 0 [.int .i64 e,.int .u64 v]):=by
 have e5:But [b5] (W.setRow b4 xs) ((W.setRow b4 xs).setCells b5 0 [.int .i64 e,.int .u64 v]):=But.setCell (But.setCell (But.refl _ _) (by simp) _) (by simp) _;have k4a:Blk (W.setRow b4 xs) b4 38 xs:=setRow_heap W b4 _ xs 38 (0,0) k4;have k5a:=k5.but (zD W b4 xs) (by simpa using hne);exact⟨k4a.but e5 (by simpa using fun h=>hne h.symm),(k5a.set_ 0 _).set_ 1 _,e5⟩
attribute [local go_sem↓] yg xd yx in
attribute [local go_sem] xe in
theorem xZ(xs:Array Value)(hxs:xs.size=22)(h1:xs.all (·.oneCell')=true)(e:Int)(w:World):Calls Tryz.prog 31 #[.agg xs,.int .i64 e] w (zql w xs e 0):=by
 go_enter Tryz.func31,Tryz.ntmps31;go_upto_region 1 with fail;refine zkc (fun W k2 k4 k5 hE0=> ?_);obtain⟨b2,hb2⟩: ∃b,w.heap.size=b:=⟨_,rfl⟩;rw[hb2]at k2 k4 k5|-;have Hb2:=Lib.hid hb2;clear hb2;have hlc:=zj k2 hxs;obtain⟨hst,hst2⟩:=yh (xs:=xs) k4 rfl k5 rfl hxs h1 (by omega) e 0;go_wp2_with fail;obtain⟨k4a,k5a,e5⟩:=vN (xs:=xs) k4 k5 (by omega) e 0;have hb2:=Hb2.out;exact zq8 rfl rfl rfl k4a hxs k5a ⟨rfl,But.ext (y7 hE0 (by omega) _) e5 (fun q hq=>by have:=List.mem_singleton.1 hq;omega)⟩
attribute [local go_sem↓] yg xd yx in
attribute [local go_sem] xe in
theorem qX(xs:Array Value)(hxs:xs.size=22)(h1:xs.all (·.oneCell')=true)(e:Int)(w:World):Calls Tryz.prog 34 #[.agg xs,.int .u64 e] w (zql w xs 0 e):=by
 go_enter Tryz.func34,Tryz.ntmps34;go_upto_region 1 with fail;refine zkc (fun W k2 k4 k5 hE0=> ?_);obtain⟨b2,hb2⟩: ∃b,w.heap.size=b:=⟨_,rfl⟩;rw[hb2]at k2 k4 k5|-;have Hb2:=Lib.hid hb2;clear hb2;have hlc:=zj k2 hxs;obtain⟨hst,hst2⟩:=yh (xs:=xs) k4 rfl k5 rfl hxs h1 (by omega) 0 e;go_wp2_with fail;obtain⟨k4a,k5a,e5⟩:=vN (xs:=xs) k4 k5 (by omega) 0 e;have hb2:=Hb2.out;exact zq9 rfl rfl rfl k4a hxs k5a ⟨rfl,But.ext (y7 hE0 (by omega) _) e5 (fun q hq=>by have:=List.mem_singleton.1 hq;omega)⟩
def zdg(w:World)(N B:Nat)(C:Cfg)(r:Ending)(w':World):Prop:= ∃(P':Hpl) (M':Hmm) (e v:Int),r= .returned (.tuple #[.agg (ze P' M'),.agg #[.int .i64 e,.int .u64 v]])∧HO w' 0 P' M'∧Ap P' M'∧(∃I',Hv N P' B I')∧P'.C=C∧(e≠18->P'.dead=false)∧Ext w w'
theorem jx{w W:World}{N B b4 b5:Nat}{C:Cfg}{P':Hpl}{M':Hmm}{e v:Int}{a:Act}{ys:Array Value}{z0 z1:Value}(hO:HO W 0 P' M')(hap:Ap P' M')(hv: ∃I',Hv N P' B I')(hC:P'.C=C)(hde:e≠18->P'.dead=false)(hE:Ext w W)(k4:Blk W b4 38 ys)(k5:Blk W b5 69 #[z0,z1])(hb:w.heap.size<=b4∧w.heap.size<=b5)(hne:b5≠b4)
 (hd:a.defers= []) (h4:a.tmps[4]?.getD undef= .pointer (some ⟨b4,0,none⟩)) (h5:a.tmps[5]?.getD undef= .pointer (some ⟨b5,0,none⟩)):bodyPost Tryz.prog Tryz.f32 (zdg w N B C) Exit.ret a ((W.setRow b4 (ze P' M')).setCells b5 0 [.int .i64 e,.int .u64 v]):=by
 obtain⟨k4a,k5a,e5⟩:=vN (xs:=ze P' M') k4 k5 hne e v;have e4:=zD W b4 (ze P' M');have k5b:=k5.but e4 (by simpa using hne);have hO':=(hO.bx k4 e4).bx2 k5b (by decide) (by decide) (by decide) (by decide) (by decide) (by decide) (by decide) e5;exact zga hd h4 h5 k4a (za _ _) k5a ⟨P',M',e,v,rfl,hO',hap,hv,hC,hde,But.ext (y7 hE hb.1 _) e5 (fun q hq=>by have:=List.mem_singleton.1 hq;omega)⟩
theorem yV{w W:World}{N B b4 b5:Nat}{C:Cfg}{P':Hpl}{M':Hmm}{e v:Int}{a:Act}{ys:Array Value}{z0 z1:Value}(hO:HO W 0 P' M')(hap:Ap P' M')(hv: ∃I',Hv N P' B I')(hC:P'.C=C)(hde:e≠18->P'.dead=false)(hE:Ext w W)(k4:Blk W b4 38 ys)(k5:Blk W b5 69 #[z0,z1])(hb:w.heap.size<=b4∧w.heap.size<=b5)(hne:b5≠b4)
 (hd:a.defers= []) (h4:a.tmps[4]?.getD undef= .pointer (some ⟨b4,0,none⟩)) (h5:a.tmps[5]?.getD undef= .pointer (some ⟨b5,0,none⟩)):bodyPost Tryz.prog Tryz.f42 (zdg w N B C) Exit.ret a ((W.setRow b4 (ze P' M')).setCells b5 0 [.int .i64 e,.int .u64 v]):=by
 obtain⟨k4a,k5a,e5⟩:=vN (xs:=ze P' M') k4 k5 hne e v;have e4:=zD W b4 (ze P' M');have k5b:=k5.but e4 (by simpa using hne);have hO':=(hO.bx k4 e4).bx2 k5b (by decide) (by decide) (by decide) (by decide) (by decide) (by decide) (by decide) e5;exact zgb hd h4 h5 k4a (za _ _) k5a ⟨P',M',e,v,rfl,hO',hap,hv,hC,hde,But.ext (y7 hE hb.1 _) e5 (fun q hq=>by have:=List.mem_singleton.1 hq;omega)⟩
theorem y9{w W:World}{N B b4 b5:Nat}{C:Cfg}{P':Hpl}{M':Hmm}{e v:Int}{a:Act}{ys:Array Value}{z0 z1:Value}(hO:HO W 0 P' M')(hap:Ap P' M')(hv: ∃I',Hv N P' B I')(hC:P'.C=C)(hde:e≠18->P'.dead=false)(hE:Ext w W)(k4:Blk W b4 38 ys)(k5:Blk W b5 69 #[z0,z1])(hb:w.heap.size<=b4∧w.heap.size<=b5)(hne:b5≠b4)
 (hd:a.defers= []) (h4:a.tmps[4]?.getD undef= .pointer (some ⟨b4,0,none⟩)) (h5:a.tmps[5]?.getD undef= .pointer (some ⟨b5,0,none⟩)):bodyPost Tryz.prog Tryz.f20 (zdg w N B C) Exit.ret a ((W.setRow b4 (ze P' M')).setCells b5 0 [.int .i64 e,.int .u64 v]):=by
 obtain⟨k4a,k5a,e5⟩:=vN (xs:=ze P' M') k4 k5 hne e v;have e4:=zD W b4 (ze P' M');have k5b:=k5.but e4 (by simpa using hne);have hO':=(hO.bx k4 e4).bx2 k5b (by decide) (by decide) (by decide) (by decide) (by decide) (by decide) (by decide) e5;exact znh hd h4 h5 k4a (za _ _) k5a ⟨P',M',e,v,rfl,hO',hap,hv,hC,hde,But.ext (y7 hE hb.1 _) e5 (fun q hq=>by have:=List.mem_singleton.1 hq;omega)⟩
theorem jR{W w':World}{base:Nat}{P:Hpl}{M:Hmm}{b8:Nat}{us':List Bool}{rs':List Int}{U R:Option Addr}{cu cr:Nat}{xs:Array Value}(hO:HO W 0 P M)(k8:Blk W b8 38 xs)(hr:RO W base U cu R cr us' rs')(hB:But [b8] W w'):
 HO w' 0 {P with us:=us',rs:=rs'} {M with U:=U,cu:=cu,R:=R,cr:=cr}:=by
 have h:=hO.bx k8 hB;exact⟨h.ru,h.sp,h.bo,h.so,h.hp,⟨zu (y4 hr.u k8 hB (by decide)) (Nat.zero_le _),zu (y4 hr.r k8 hB (by decide)) (Nat.zero_le _)⟩⟩
theorem jg{w W:World}{P:Hpl}{M:Hmm}{us':List Bool}{rs':List Int}{U R:Option Addr}{cu cr:Nat}(hO:HO w 0 P M)(hr:RO W w.heap.size U cu R cr us' rs'):Ap {P with us:=us',rs:=rs'} {M with U:=U,cu:=cu,R:=R,cr:=cr}:=fun b hb=>by
 have h1:=(World.ownsRow.lt hr.r b hb).1;have h2:=hO.sp.lt;show b≠M.gW;omega
attribute [local go_sem↓] yg xd yx in
attribute [local go_sem] xe in
theorem zgc(N B r d:Nat)(c z:Int)(P:Hpl)(M:Hmm)(I:List In)(w:World)(h:HO w 0 P M)(hap:Ap P M)(hv:Hv N P B I)(hN:N<=800000)(hdead:P.dead=false)(hr:r<=15)(hd32:d<=32):
 Calls Tryz.prog 32 #[.agg (ze P M),.agg #[.int .i64 c,.int .i64 r,.int .i64 d,.int .i64 z]] w (zdg w (N+257) B P.C):=by
 have Hv0:=Lib.hid hv;have hul:=Lib.hid hv.vh.rt.1;have hrok:=hv.vh.rok;clear hv;go_enter Tryz.func32,Tryz.ntmps32;go_upto_region 1 with fail;refine zpg (fun W k2 k3 k4 k5 hE0=> ?_);obtain⟨b2,hb2⟩: ∃b,w.heap.size=b:=⟨_,rfl⟩;rw[hb2]at k2 k3 k4 k5|-;have Hb2:=Lib.hid hb2;clear hb2;have c3:=k3.cell;have l3:=k3.lt;have hlv:=zew r d W hr hd32;go_wp2_with fail;go_at_call 54;refine hlv.mono ?_;rintro e w1 ⟨⟨zl,rfl⟩,rfl⟩;clear c3 l3 hlv;have hlc:=zj k2 (za P M);have hfu:=zb3 P M W (h.ext hE0) hul.out;go_wp2_with fail;go_at_call 55;refine hfu.mono ?_;rintro e w2 ⟨fz,rfl,hfr,hE2⟩;clear hlc hfu;have Hfr:=Lib.hid hfr;clear hfr;have hE:=hE0.trans hE2;replace k2:=k2.ext hE2;replace k3:=k3.ext hE2;replace k4:=k4.ext hE2;replace k5:=k5.ext hE2;cases fz with
 |true=>
  have hlc:=zj k2 (za P M);have hno:=xZ (ze P M) (za _ _) (zg _ _) 15 w2;go_wp2_with fail;go_at_call 31;refine hno.mono ?_;rintro e w3 ⟨rfl,hE3⟩;clear hlc hno;obtain⟨hst,hst2⟩:=yh (xs:=ze P M) (k4.ext hE3) rfl (k5.ext hE3) rfl (za _ _) (zg _ _) (by omega) 15 0;have hb2:=Hb2.out;go_wp2_with fail;exact jx (h.ext (hE.trans hE3)) hap ⟨I,Hv0.out.wide (by omega)⟩ rfl (fun _=>hdead) (hE.trans hE3) (k4.ext hE3) (k5.ext hE3) (by omega) (by omega) rfl rfl rfl
 |false=>
  obtain⟨k,hk,hkj⟩:=Hfr.out rfl
  have hk32:k<32:=by
   have:=(List.getElem?_eq_some_iff.1 hk).1;have:=hul.out;omega
  have Hk:=Lib.hid hk;have Hkj:=Lib.hid hkj;clear hk hkj;have hlc:=zj k2 (za P M);have c3:=k3.cell;have l3:=k3.lt;have hal:=zkm N B r d P M I w2 (h.ext hE) Hv0.out hN hdead hr hd32;go_wp2_with fail;go_at_call 56;refine hal.mono ?_;rintro e w3 ⟨P',M',a,ee,I',rfl,hH,hcase⟩;clear hlc hal c3 l3;have hst:=fun zs hz=>zT w3 zs (ze P' M') hz (za P' M') (zg P' M')
  have hsz:=za P' M';have hE3:=hH.ex;have hlt:=(k5.ext hE3).lt;go_upto_region 7 with fail;clear hst hsz;refine yN (fun W4 k8 hE4=> ?_);obtain⟨b8,hb8⟩: ∃b,w3.heap.size=b:=⟨_,rfl⟩;rw[hb8]at k8 hlt|-;have Hb8:=Lib.hid hb8;clear hb8;replace k4:=(k4.ext hE3).ext hE4;replace k5:=(k5.ext hE3).ext hE4;have hE34:=(hE.trans hE3).trans hE4;have hO4:=hH.ho.ext hE4;have HH:=Lib.hid hH;clear hH k2 k3 hE0 hE2;rcases hcase with⟨rfl,hd'⟩|⟨rfl,hd',hv',o,ho,rfl⟩
  ·have hlc:=zj k8 (za P' M')
   have hno:=xZ (ze P' M') (za _ _) (zg _ _) 18 W4;go_wp2_with fail;go_at_call 31;refine hno.mono ?_;rintro e w5 ⟨rfl,hE5⟩;clear hlc hno;obtain⟨hst,hst2⟩:=yh (xs:=ze P' M') (k4.ext hE5) rfl (k5.ext hE5) rfl (za _ _) (zg _ _) (by omega) 18 0;have hb2:=Hb2.out;go_wp2_with fail;exact jx (hO4.ext hE5) HH.out.ap HH.out.hv HH.out.cf (fun h=>absurd rfl h) (hE34.trans hE5) (k4.ext hE5) (k5.ext hE5) (by omega) (by omega) rfl rfl rfl
  ·have ho16:o.f 0<16384:=by
    obtain⟨T,hT,ob,hob,rfl⟩:=zK.1 ho;obtain⟨_,_,_,_,_,hlt⟩:=hv'.vh.hok.lay.owner hT hob (k:=0) (by unfold Ob.n;omega);have:=zav hv'.vh.hok.lay.ch;omega
   have hv6:=hv'.vh.take (k:=k) ho;have hus:=HH.out.us;have htk:=zfj M'.U M'.R M'.cu M'.cr k P'.us P'.rs ((o.f 0:Int)+1) W4 hO4.ro hv'.vh.rok (by rw[hus];exact Hk.out) (by rw[hus];exact Hkj.out);obtain⟨t,ht⟩: ∃t,o.f 0=t:=⟨_,rfl⟩;rw[ht]at htk hv6 ho16|-;have hv7: ∃I',Hv (N+257) {P' with us:=P'.us.set k true,rs:=P'.rs.set k ((t:Int)+1)} B I':=⟨I',hv6,hv'.wf,hv'.ok,hv'.ql,hv'.bt,hv'.s0,hv'.ct⟩;have Hv7:=Lib.hid hv7;clear ht ho hv6 hus hv7 hv';have r9:W4.cell? ⟨b8,9,none⟩=some (.slice M'.U P'.us.length M'.cu):=k8.cell 9;have r10:W4.cell? ⟨b8,10,none⟩=some (.slice M'.R P'.rs.length M'.cr):=k8.cell 10;have l8:=k8.lt;go_wp2_with fail;go_at_call 57;refine htk.mono ?_;rintro e w5 ⟨U,cu,R,cr,rfl,hro,hE5⟩;clear htk r9 r10 l8;have k8a:=k8.ext hE5;have l8:=k8a.lt;have hst:=yE k8a 9 [.slice U P'.us.length cu,.slice R P'.rs.length cr] (by rw[za];simp) (by simp[Value.oneCell']);go_upto_region 11 with fail;clear hst l8;have e8:But [b8] w5 (w5.setCells b8 9 [.slice U P'.us.length cu,.slice R P'.rs.length cr]):=But.setCell (But.setCell (But.refl _ _) (by simp) _) (by simp) _;have hul':(P'.us.set k true).length=P'.us.length:=List.length_set;have hrl':(P'.rs.set k ((t:Int)+1)).length=P'.rs.length:=List.length_set
   have k8b:Blk (w5.setCells b8 9 [.slice U P'.us.length cu,.slice R P'.rs.length cr]) b8 38 (ze {P' with us:=P'.us.set k true,rs:=P'.rs.set k ((t:Int)+1)} {M' with U:=U,cu:=cu,R:=R,cr:=cr}):=by
    have:=(k8a.set_ 9 (.slice U P'.us.length cu)).set_ 10 (.slice R P'.rs.length cr);simp only[ze,hul',hrl']at this|-;exact this
   have hO6:=jR (hO4.ext hE5) k8a hro e8;have hap6:=jg (P:=P') (M:=M') hO4 hro;have hb2:=Hb2.out;replace k4:=(k4.ext hE5).but e8 (by simp;omega);replace k5:=(k5.ext hE5).but e8 (by simp;omega);have hE6:=But.ext (hE34.trans hE5) e8 (fun q hq=>by have:=List.mem_singleton.1 hq;have:=hE34.size_le;have:=HH.out.ex.size_le;have:=Hb8.out;have:=hE.size_le;omega);obtain⟨P6,hP6⟩: ∃P6:Hpl,P6={P' with us:=P'.us.set k true,rs:=P'.rs.set k ((t:Int)+1)}:=⟨_,rfl⟩;obtain⟨M6,hM6⟩: ∃M6:Hmm,M6={M' with U:=U,cu:=cu,R:=R,cr:=cr}:=⟨_,rfl⟩;rw[<-hP6,<-hM6]at k8b hO6 hap6;have hv6:=Hv7.out;rw[<-hP6]at hv6;have Hv6:=Lib.hid hv6;have Hcd:=Lib.hid (show P6.C=P.C∧P6.dead=false by rw[hP6];exact⟨HH.out.cf,hd'⟩);generalize w5.setCells b8 9 [.slice U P'.us.length cu,.slice R P'.rs.length cr]=W6 at*;clear hv6 hP6 hM6 hul' hrl' e8 hro k8 k8a hO4 hE5 Hv7;have hlc:=zj k8b (za P6 M6);have hok:=qX (ze P6 M6) (za _ _) (zg _ _) ((k:Int)+1) W6;go_wp2_with fail;go_at_call 34;refine hok.mono ?_;rintro e w7 ⟨rfl,hE7⟩;clear hlc hok;obtain⟨hst,hst2⟩:=yh (xs:=ze P6 M6) (k4.ext hE7) rfl (k5.ext hE7) rfl (za _ _) (zg _ _) (by omega) 0 ((k:Int)+1);go_wp2_with fail;exact jx (hO6.ext hE7) hap6 Hv6.out Hcd.out.1 (fun _=>Hcd.out.2) (hE6.trans hE7) (k4.ext hE7) (k5.ext hE7) (by omega) (by omega) rfl rfl rfl
end Go.Proofs.YtopcdfbplknmlaaGreat
