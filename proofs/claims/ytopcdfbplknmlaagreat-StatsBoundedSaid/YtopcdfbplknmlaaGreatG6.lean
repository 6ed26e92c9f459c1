/- Part of the proof of the claim: walks and plain laws; each theorem states its own conditions. -/
import Derived.Test.YtopcdfbplknmlaaGreatL
import Derived.Test.YtopcdfbplknmlaaGreatG5
set_option linter.all false
set_option maxHeartbeats 4000000
set_option maxRecDepth 100000
namespace Go.Proofs.YtopcdfbplknmlaaGreat
open Go.RowKit Go.Draw
def zqu(w:World)(S:Sp)(l:List Inc)(ss:List St)(r:Ending)(w':World):Prop:=
 ∃(o:List Nat) (A:Option Addr) (c n:Nat),r= .returned (.tuple #[.slice A o.length c,.int .i64 n])∧xU w' (.slice A o.length c) o∧Asc o∧(∀t,t∈o↔jm (qn S.fs l S.fs.length) ss t∧yT S l (S.w t)=true)∧n<=100000000∧Ext w w'
theorem zfa(A Bf A0 D0:Option Addr)(a b c0 d0:Nat)(S:Sp)(L:List Ch)(ps0:List (St×Value))(l:List Inc)(w:World)(h:SRd w S A Bf)(hS:Chs S L)(hss:SetO w 0 A0 c0 ps0)(hw:WfS (ps0.map (·.1)))(hl:Rd w D0 l.length 5 (zQ l))(hn:l.length<=1000)
 (hv: ∀x∈ps0.map (·.1),∀t∈x.l,t<S.ws.length∧(S.w t=0∨∃u:Nat,S.w t=(u:Int)+1∧u<S.ws.length)):
 Calls Tryz.prog 109 #[spV S A a Bf b,.slice A0 ps0.length c0,.slice D0 l.length d0] w (zqu w S l (ps0.map (·.1))):=by
 unfold spV;have hS4:=hS.n2.2;have hflen:=zbp S.fs l S.fs.length;have HS:=Lib.hid hS;have Hw:=Lib.hid hw;have HV:=Lib.hid hv;clear hS hv hw;go_enter Tryz.func109,Tryz.ntmps109;go_upto_region 1 with fail;have kS:Blk (w.alloc (.cells #[.int .i64 S.sh,.slice A S.ws.length a,.slice Bf S.fs.length b] 29)) w.heap.size 29 #[.int .i64 S.sh,.slice A S.ws.length a,.slice Bf S.fs.length b]:=Blk.new rfl;have hE0:=Ext.alloc (Ext.refl w) (.cells #[.int .i64 S.sh,.slice A S.ws.length a,.slice Bf S.fs.length b] 29);generalize w.alloc (.cells #[.int .i64 S.sh,.slice A S.ws.length a,.slice Bf S.fs.length b] 29)=W at*;have cS:=kS.cell;have lS:=kS.lt;go_wp2_with(first|(go_at_call 119;refine(zau _ _ _ _ _ _ S l _ (h.ext jX) hS4 (hl.ext jX) hn).mono ?_;rintro e w1 ⟨F,cf,rfl,hF,hE1⟩;have kS1:=kS.ext hE1)|(go_at_call 118;refine(zl8 _ _ _ _ ps0 _ _ (hss.ext jX) Hw.out (Rd.of_own hF) (by omega)).mono ?_;rintro e w1 ⟨al,A2,c2,n,rfl,hI2,ha2,hm2,hnn,hE2⟩));have kS2:=kS1.ext hE2;have hE02:Ext w w1:=hE0.trans (hE1.trans hE2);obtain⟨wc,hwc⟩: ∃wc,wc=w1:=⟨_,rfl⟩;subst hwc;have hl1:=Rd.of_own hI2;have Hm2:=Lib.hid hm2;have Ha2:=Lib.hid ha2
 have hal:al.length<=16384:=vT 16384 al (vE ha2) (fun t ht=>by
  obtain⟨x,hx,_,_,hxt⟩:=(hm2 t).1 ht;exact(Hw.out.2 x hx).2.2.2 t hxt)
 have hlw:w.heap.size+1<=wc.heap.size:=by have:=kS2.lt;omega
 clear cS lS kS kS1 hE0 hE1 hE2 hF hI2 hm2 ha2;go_loopw [10,23] (fun s i wr=> ∃(k:Nat) (D:Option Addr) (d':Nat),k<=al.length∧i= .int .i64 k∧s= .slice D (vF (fun t=>yT S l (S.w t)) al k).length d'∧wr.ownsRow wc.heap.size 3 1 (.slice D (vF (fun t=>yT S l (S.w t)) al k).length d') (vF (fun t=>yT S l (S.w t)) al k).length (yb (yB (vF (fun t=>yT S l (S.w t)) al k)))∧Ext wc wr) (fun _ i _=>al.length-(intOf i).toNat);case atStart=>exact⟨0,none,0,by omega,rfl,rfl,zP _ _ _ _,by exact jX⟩
 case round=>
  obtain⟨k,D,d',hk,rfl,rfl,hown,hEr⟩:=hrel;have hEw:=hE02.trans hEr;have hpl:=ze7 (fun t=>yT S l (S.w t)) al k;by_cases hlt:k<al.length
  ·have hdec:decide ((k:Int)<al.length)=true:=by simp;omega
   have hdec':decide (k<al.length)=true:=by simp;omega
   have hkI:(k:Int)<al.length:=by omega
   obtain⟨t,ht⟩: ∃t,al[k]? =some t:=⟨_,List.getElem?_eq_getElem hlt⟩;obtain⟨x,hx,_,_,hxt⟩:=(Hm2.out t).1 (List.mem_of_getElem? ht);obtain⟨htl,hpt⟩:=HV.out x hx t hxt;obtain⟨v,hv⟩: ∃v,S.ws[t]? =some v:=⟨_,List.getElem?_eq_getElem htl⟩;have hvw:S.w t=v:=by unfold Sp.w;rw[List.getD_eq_getElem?_getD,hv];rfl
   rw[hvw]at hpt;have Hv:=Lib.hid hpt;have Hvw:=Lib.hid hvw;obtain⟨bL,oL,rfl,z0⟩:=vn (hl1.ext hEr) (jM ht);obtain⟨bW,oW,rfl,r0⟩:=xw (h.W.ext hEw) hv;have lL:=zh z0;have lW:=zh r0;have kS3:=kS2.ext hEr;have cS:=kS3.cell;have lS:=kS3.lt;have htI:(t:Int)<S.ws.length:=by omega
   have dt:decide ((t:Int)<S.ws.length)=true:=by simp;omega
   have dt':decide (t<S.ws.length)=true:=by simp;omega
   have Ht:=Lib.hid ht;clear ht hx hxt hpt hv hvw;by_cases hb:yT S l v=true
   ·have Hy:=Lib.hid (ze6 (f:=fun t=>yT S l (S.w t)) Ht.out (by rw[Hvw.out];exact hb))
    have Hbb:=Lib.hid hb;clear hb;go_wp2_with fail;refine jRE [(true,0),(true,1),(true,2),(true,3),(true,4),(true,5),(true,6),(true,7),(true,8),(true,9),(true,10),(true,11),(true,12),(false,13),(true,14)] Tryz.mixed fun hx=> ?_
    repeat(first
     |refine jLE hx ?_
     |refine jLS ?_
     |(refine yo hx (fun K hK=> ?_);go_simp;go_at_call 117;refine(q7 _ _ _ _ _ _ _ S L l _ (h.ext jX) (hl.ext jX) HS.out Hv.out hn _ Hbb.out).mono ?_;rintro e w1 ⟨rfl,hE3⟩;refine hK _ _ (hE3) ?_;clear hK hx;intro hx;refine jq ?_)
     |(refine yo hx (fun K hK=> ?_);go_simp;(first|refine hK _ _ jX ?_|refine hK undef _ jX ?_);clear hK hx;intro hx;try refine jq ?_))
    refine zH ?_;have hE5:Ext wr w1:=by exact jX
    have hsz5:=(hEr.trans hE5).size_le;go_wp2_with(first|(at_builtin;refine zJ rfl Tryz.elI _ _ rfl wc.heap.size _ _ _ rfl (z8 (zm hown hE5) _) _ 1 1 _ rfl (xm _ _ _) (by simp[Value.oneCell']) (by omega) (by omega) (by(first|omega|(simp;done)|(simp;omega))) ?_;intro A3 a3 w2 hown3 hg3 hat3;have hE6:Ext wc w2:=yy (Ext.alloc (hEr.trans hE5) _) hg3 (z8 (zm hown hE5) _) (Nat.le_refl _)));go_roundw
    case rel=>exact⟨k+1,A3,a3,by omega,by go_num,by rw[Hy.out];simp,by
     rw[Hy.out,<-qg];simpa using hown3,hE6⟩
    case measure=>simp[intOf];omega
   ·have hbf:yT S l v=false:=by simpa using hb
    have Hn:=Lib.hid (zir (f:=fun t=>yT S l (S.w t)) Ht.out (by rw[Hvw.out];exact hbf));have Hbb:=Lib.hid hbf;clear hb hbf;go_wp2_with fail;refine jRE [(true,0),(true,1),(true,2),(true,3),(true,4),(true,5),(true,6),(true,7),(true,8),(true,9),(true,10),(true,11),(true,12),(false,13),(true,14)] Tryz.mixed fun hx=> ?_
    repeat(first
     |refine jLE hx ?_
     |refine jLS ?_
     |(refine yo hx (fun K hK=> ?_);go_simp;go_at_call 117;refine(q7 _ _ _ _ _ _ _ S L l _ (h.ext jX) (hl.ext jX) HS.out Hv.out hn _ Hbb.out).mono ?_;rintro e w1 ⟨rfl,hE3⟩;refine hK _ _ (hE3) ?_;clear hK hx;intro hx;refine jq ?_)
     |(refine yo hx (fun K hK=> ?_);go_simp;(first|refine hK _ _ jX ?_|refine hK undef _ jX ?_);clear hK hx;intro hx;try refine jq ?_))
    refine zH ?_;have hE5:Ext wr w1:=by exact jX
    go_wp2_with fail;go_roundw;case rel=>exact⟨k+1,D,d',by omega,by go_num,by rw[Hn.out],by rw[Hn.out];exact zm hown hE5,hEr.trans hE5⟩
    case measure=>simp[intOf];omega
  ·have hdec:decide ((k:Int)<al.length)=false:=by simp;omega
   have hdec':decide (k<al.length)=false:=by simp;omega
   have Hke:=Lib.hid (show vF (fun t=>yT S l (S.w t)) al k=al.filter (fun t=>yT S l (S.w t)) by
    rw[show k=al.length by omega,ze8])
   go_wp2_with fail;refine bodyPost_ret (v:= .tuple #[.slice D (vF (fun t=>yT S l (S.w t)) al k).length d',.int .i64 n]) (by simp[results,Tryz.results109,go_sem]) rfl ?_;rw[Hke.out]at hown|-;refine⟨_,D,d',n,rfl,zu hown (by omega),Ha2.out.filter _,fun t=> ?_,hnn,hEw⟩;rw[List.mem_filter,Hm2.out]
theorem za8{N:Nat}{S:List Nat}(W:World){a c:World}(ha:Ext W a)(hc:Ext W c)(hs:a.heap.size<=c.heap.size)(hN:N<=W.heap.size):Bel N S a c:=
 ⟨hc.os.trans ha.os.symm,hc.tape.trans ha.tape.symm,hc.output.trans ha.output.symm,hs,fun _ k hk _=>(hc.block k (by omega)).trans (ha.block k (by omega)).symm⟩
theorem zma(A Bf:Option Addr)(a b t:Nat)(S:Sp)(w:World)(h:SRd w S A Bf):
 Calls Tryz.prog 99 #[spV S A a Bf b,.int .i64 t,.int .u64 0] w fun r w'=>r= .returned (.tuple #[.int .i64 0,.int .i64 0,.bool false])∧Ext w w':=by
 unfold spV;go_enter Tryz.func99,Tryz.ntmps99;go_wp2;refine bodyPost_ret (v:= .tuple #[.int .i64 0,.int .i64 0,.bool false]) (by simp[results,Tryz.results99,go_sem]) rfl ?_;exact⟨rfl,by exact jX⟩
theorem zfb(A Bf:Option Addr)(a b t u B:Nat)(S:Sp)(F G:Fr)(bb:Bool)(w:World)(h:SRd w S A Bf)(hB:2^S.sh=B)(hs:S.sh<=8)(ht:t<S.ws.length)(hu:u<S.ws.length)(hwl:S.ws.length<=16384)(hF:S.fs[t/B]? =some F)(hG:S.fs[u/B]? =some G)
 (hb:decide (F.o≠ -1∧G.o≠ -1∧G.s<F.s)=bb):
 Calls Tryz.prog 99 #[spV S A a Bf b,.int .i64 t,.int .u64 ((u:Int)+1)] w fun r w'=>r= .returned (.tuple #[.int .i64 (t/B:Nat),.int .i64 (u/B:Nat),.bool bb])∧Ext w w':=by
 unfold spV;have e0:decide ((S.ws.length:Int)<(u:Int)+1)=false:=decide_eq_false (by omega);have e1:((u:Int)+1==0)=false:=by simp;omega
 have e3:(u:Int)+1-1=u:=by omega
 have e8:decide ((t:Int)<0)=false:=decide_eq_false (by omega);have e9:decide ((S.ws.length:Int)<=t)=false:=decide_eq_false (by omega);have e9':decide (S.ws.length<=t)=false:=decide_eq_false (by omega);have hfl:=(List.getElem?_eq_some_iff.1 hF).1;have hgl:=(List.getElem?_eq_some_iff.1 hG).1;have hp:(2:Int)^S.sh=(B:Int):=by rw[<-hB];simp
 have e4:(t:Int)/(B:Int)=((t/B:Nat):Int):=by simp
 have e4':(u:Int)/(B:Int)=((u/B:Nat):Int):=by simp
 obtain⟨bF,oF,rfl,f0,f1,f2⟩:=jl h.F hF;obtain⟨bG,oG,he,g0,g1,g2⟩:=jl h.F hG;simp only[Option.some.injEq,Addr.mk.injEq,and_true]at he;obtain⟨rfl,rfl⟩:=he;generalize hm:t/B=m at*;generalize hn:u/B=n at*;have mI:(m:Int)<S.fs.length:=by omega
 have nI:(n:Int)<S.fs.length:=by omega
 have e5:((S.sh:Int)).toNat=S.sh:=by omega
 have e6:(u:Int)+1<18446744073709551616:=by omega
 have e7:(u:Int)<9223372036854775808:=by omega
 have hS3:S.sh<64:=by omega
 have Hb:=Lib.hid hb;clear hF hG hm hn hb hB;go_enter Tryz.func99,Tryz.ntmps99;go_upto_region 3 with fail;have kS:Blk (w.alloc (.cells #[.int .i64 S.sh,.slice A S.ws.length a,.slice (some ⟨bF,oF,none⟩) S.fs.length b] 29)) w.heap.size 29 #[.int .i64 S.sh,.slice A S.ws.length a,.slice (some ⟨bF,oF,none⟩) S.fs.length b]:=Blk.new rfl;have hE0:=Ext.alloc (Ext.refl w) (.cells #[.int .i64 S.sh,.slice A S.ws.length a,.slice (some ⟨bF,oF,none⟩) S.fs.length b] 29);have f0':=zp hE0 f0;have f1':=zp hE0 f1;have f2':=zp hE0 f2;have g0':=zp hE0 g0;have g1':=zp hE0 g1;have g2':=zp hE0 g2;clear f0 f1 f2 g0 g1 g2;generalize w.alloc (.cells #[.int .i64 S.sh,.slice A S.ws.length a,.slice (some ⟨bF,oF,none⟩) S.fs.length b] 29)=W at*;have cS:=kS.cell;have lS:=kS.lt;have lF:=zh f0';refine jRE [(true,0),(true,1),(true,2),(true,3),(true,4),(true,5),(true,6),(true,7),(true,8),(true,9),(true,10),(true,11),(true,12),(true,13)] Tryz.mixed fun hx=> ?_
 repeat(first
  |refine jLE hx ?_
  |refine jLS ?_
  |(refine yo hx (fun K hK=> ?_);go_simp;(first|refine hK _ _ jX ?_|refine hK undef _ jX ?_);clear hK hx;intro hx;try refine jq ?_))
 refine zH ?_;go_wp2_with fail;go_cut [6,7,8,9,10,11,12] (fun s6 s7 s8 s9 s10 s11 s12 wx=> ∃x y:Nat,s9= .int .i64 m∧s10= .int .i64 n∧s11= .pointer (some ⟨x,0,none⟩)∧s12= .pointer (some ⟨y,0,none⟩)∧Blk wx x 118 #[.int .i64 F.o,.int .i64 F.s,.int .i64 F.n]∧Blk wx y 118 #[.int .i64 G.o,.int .i64 G.s,.int .i64 G.n]∧Ext W wx)
 case first=>
  refine zn (W.heap.size) [] (.take 0 (.take 1 (.take 2 (.take 3 (.take 4 (.take 5 (.take 6 (.take 7 (.take 8 (.take 9 (.alt 10 (.alt 11 (.alt 12 (.alt 13 .done .none) .none) .none) (.alt 11 (.alt 10 (.alt 12 (.alt 13 .done .none) .none) .none) .none)))))))))))) Tryz.mixed (by kernel_rfl) ?_;intro hx;iterate 10 (first|refine jTN hx ?_|refine jTS ?_)
  refine jCN hx (fun K hK=> ?_) ?_;go_simp;first|refine hK _ _ jN ?_|refine hK undef _ jN ?_
  clear hK hx;intro hx;refine jp ?_;refine jCN hx (fun K hK=> ?_);go_simp;first|refine hK _ _ jN ?_|refine hK undef _ jN ?_
  clear hK hx;intro hx;refine jp ?_;refine yl hx (fun K hK=> ?_)
  skip
  go_simp;refine hK _ ((za8 W (by(repeat(first|(with_reducible exact Ext.refl _)|assumption|(with_reducible refine Ext.alloc ?_ _)|(with_reducible refine Ext.drew ?_)|(with_reducible refine Ext.setCell ?_ ?_ _;rotate_left;(focus(first|omega|(simp;done)|(simp;omega))))))) (by(repeat(first|(with_reducible exact Ext.refl _)|assumption|(with_reducible refine Ext.alloc ?_ _)|(with_reducible refine Ext.drew ?_)|(with_reducible refine Ext.setCell ?_ ?_ _;rotate_left;(focus(first|omega|(simp;done)|(simp;omega))))))) (by simp) (Nat.le_refl _))) ?_;clear hK hx;intro hx;refine yl hx (fun K hK=> ?_)
  skip
  go_simp;refine hK _ ((za8 W (by(repeat(first|(with_reducible exact Ext.refl _)|assumption|(with_reducible refine Ext.alloc ?_ _)|(with_reducible refine Ext.drew ?_)|(with_reducible refine Ext.setCell ?_ ?_ _;rotate_left;(focus(first|omega|(simp;done)|(simp;omega))))))) (by(repeat(first|(with_reducible exact Ext.refl _)|assumption|(with_reducible refine Ext.alloc ?_ _)|(with_reducible refine Ext.drew ?_)|(with_reducible refine Ext.setCell ?_ ?_ _;rotate_left;(focus(first|omega|(simp;done)|(simp;omega))))))) (by simp) (Nat.le_refl _))) ?_;clear hK hx;intro hx;refine zi ?_;rotate_left;refine jCN hx (fun K hK=> ?_);go_simp;first|refine hK _ _ jN ?_|refine hK undef _ jN ?_
  clear hK hx;intro hx;refine jp ?_;refine jCN hx (fun K hK=> ?_);go_simp;first|refine hK _ _ jN ?_|refine hK undef _ jN ?_
  clear hK hx;intro hx;refine jp ?_;refine yl hx (fun K hK=> ?_)
  skip
  go_simp;refine hK _ ((za8 W (by(repeat(first|(with_reducible exact Ext.refl _)|assumption|(with_reducible refine Ext.alloc ?_ _)|(with_reducible refine Ext.drew ?_)|(with_reducible refine Ext.setCell ?_ ?_ _;rotate_left;(focus(first|omega|(simp;done)|(simp;omega))))))) (by(repeat(first|(with_reducible exact Ext.refl _)|assumption|(with_reducible refine Ext.alloc ?_ _)|(with_reducible refine Ext.drew ?_)|(with_reducible refine Ext.setCell ?_ ?_ _;rotate_left;(focus(first|omega|(simp;done)|(simp;omega))))))) (by simp) (Nat.le_refl _))) ?_;clear hK hx;intro hx;refine yl hx (fun K hK=> ?_)
  skip
  go_simp;refine hK _ ((za8 W (by(repeat(first|(with_reducible exact Ext.refl _)|assumption|(with_reducible refine Ext.alloc ?_ _)|(with_reducible refine Ext.drew ?_)|(with_reducible refine Ext.setCell ?_ ?_ _;rotate_left;(focus(first|omega|(simp;done)|(simp;omega))))))) (by(repeat(first|(with_reducible exact Ext.refl _)|assumption|(with_reducible refine Ext.alloc ?_ _)|(with_reducible refine Ext.drew ?_)|(with_reducible refine Ext.setCell ?_ ?_ _;rotate_left;(focus(first|omega|(simp;done)|(simp;omega))))))) (by simp) (Nat.le_refl _))) ?_;clear hK hx;intro hx;refine zi ?_;rotate_left
  all_goals
   go_wp2;go_meet
   first
    |(refine⟨W.heap.size,W.heap.size+1,rfl,rfl,rfl,rfl,Blk.alloc (Blk.new rfl) _,Blk.new (by simp),by exact jX⟩)
    |(refine⟨W.heap.size+1,W.heap.size,rfl,rfl,rfl,rfl,Blk.new (by simp),Blk.alloc (Blk.new rfl) _,by exact jX⟩)
 case rest=>
  obtain⟨x,y,rfl,rfl,rfl,rfl,kX,kY,hEx⟩:=hcut;have cX:=kX.cell;have lX:=kX.lt;have cY:=kY.cell;have lY:=kY.lt;clear cS lS kS f0' f1' f2' g0' g1' g2';have fin: ∀b:Bool,b=bb->Ending.returned (.tuple #[.int .i64 (m:Int),.int .i64 (n:Int),.bool b])= .returned (.tuple #[.int .i64 (m:Int),.int .i64 (n:Int),.bool bb]):=fun b h=>by rw[h]
  by_cases h1:F.o= -1
  ·have q1:(F.o== -1)=true:=by simpa using h1
   have q1':(F.o != -1)=false:=by simp[h1]
   have hr:=Lib.hid (show false=bb by rw[<-Hb.out];simp[h1]);clear h1;go_wp2_with fail;refine jRE [(true,0),(true,1),(true,2),(true,3),(true,4),(true,5),(true,6),(true,7),(true,8),(true,9),(true,10),(true,11),(true,12),(true,13),(true,14),(true,15),(true,16),(true,17),(true,18),(true,19)] Tryz.mixed fun hx=> ?_
   repeat(first
    |refine jLE hx ?_
    |refine jLS ?_
    |(refine yo hx (fun K hK=> ?_);go_simp;(first|refine hK _ _ jX ?_|refine hK undef _ jX ?_);clear hK hx;intro hx;try refine jq ?_))
   refine zH ?_;go_wp2;refine bodyPost_ret (v:= .tuple #[.int .i64 m,.int .i64 n,.bool false]) (by simp[results,Tryz.results99,go_sem]) rfl ?_;exact⟨fin _ hr.out,hE0.trans jX⟩
  ·have q1:(F.o== -1)=false:=by simpa using h1
   have q1':(F.o != -1)=true:=by simpa using h1
   by_cases h2:G.o= -1
   ·have q2:(G.o== -1)=true:=by simpa using h2
    have q2':(G.o != -1)=false:=by simp[h2]
    have hr:=Lib.hid (show false=bb by rw[<-Hb.out];simp[h2]);clear h1 h2;go_wp2_with fail;refine jRE [(true,0),(true,1),(true,2),(true,3),(true,4),(true,5),(true,6),(true,7),(true,8),(true,9),(true,10),(true,11),(true,12),(true,13),(true,14),(true,15),(true,16),(true,17),(true,18),(true,19)] Tryz.mixed fun hx=> ?_
    repeat(first
     |refine jLE hx ?_
     |refine jLS ?_
     |(refine yo hx (fun K hK=> ?_);go_simp;(first|refine hK _ _ jX ?_|refine hK undef _ jX ?_);clear hK hx;intro hx;try refine jq ?_))
    refine zH ?_;go_wp2;refine bodyPost_ret (v:= .tuple #[.int .i64 m,.int .i64 n,.bool false]) (by simp[results,Tryz.results99,go_sem]) rfl ?_;exact⟨fin _ hr.out,hE0.trans jX⟩
   ·have q2:(G.o== -1)=false:=by simpa using h2
    have q2':(G.o != -1)=true:=by simpa using h2
    have hr:=Lib.hid (show decide (G.s<F.s)=bb by rw[<-Hb.out];simp[h1,h2]);clear h1 h2;go_wp2_with fail;refine jRE [(true,0),(true,1),(true,2),(true,3),(true,4),(true,5),(true,6),(true,7),(true,8),(true,9),(true,10),(true,11),(true,12),(true,13),(true,14),(true,15),(true,16),(true,17),(true,18),(true,19)] Tryz.mixed fun hx=> ?_
    repeat(first
     |refine jLE hx ?_
     |refine jLS ?_
     |(refine yo hx (fun K hK=> ?_);go_simp;(first|refine hK _ _ jX ?_|refine hK undef _ jX ?_);clear hK hx;intro hx;try refine jq ?_))
    refine zH ?_;go_wp2;refine bodyPost_ret (v:= .tuple #[.int .i64 m,.int .i64 n,.bool (decide (G.s<F.s))]) (by simp[results,Tryz.results99,go_sem]) rfl ?_;exact⟨fin _ hr.out,hE0.trans jX⟩
def zis(S:Sp)(B:Nat)(ss:List St)(t:Nat)(ss':List St):Prop:=WfS ss'∧∀f g s,inS ss' f g s↔inS ss f g s∨(s=t∧zev S B t f g)
theorem zav{S:Sp}{L:List Ch}(hS:Chs S L):S.ws.length<=16384:=by
 have h1:=hS.wl;have h2:=(yG hS.sh).2;have h3:S.fs.length*2^S.sh<=64*256:=Nat.mul_le_mul hS.n2.2 h2;omega
theorem zqc{S:Sp}{L:List Ch}(hS:Chs S L){t:Nat}(ht:t<S.ws.length): ∃F,S.fs[t/2^S.sh]? =some F∧t/2^S.sh<64:=by
 have hb1:=(yG hS.sh).1
 have hg:t/2^S.sh<S.fs.length:=by
  rw[Nat.div_lt_iff_lt_mul (by omega),<-hS.wl];exact ht
 exact⟨_,List.getElem?_eq_getElem hg,by have:=hS.n2.2;omega⟩
theorem zbr(A Bf A0:Option Addr)(a b c0 t B:Nat)(v:Int)(S:Sp)(L:List Ch)(ps0:List (St×Value))(w:World)(h:SRd w S A Bf)(hS:Chs S L)(hB:2^S.sh=B)(hss:SetO w 0 A0 c0 ps0)(hw:WfS (ps0.map (·.1)))(ht:t<S.ws.length)(hv:S.w t=v)(hp:v=0∨∃u:Nat,v=(u:Int)+1∧u<S.ws.length):
 Calls Tryz.prog 85 #[spV S A a Bf b,.slice A0 ps0.length c0,.int .i64 t,.int .u64 v] w (zg3 w (zis S B (ps0.map (·.1)) t)):=by
 have Hw:=Lib.hid hw;have hwl:=zav hS;have hs8:=hS.sh.2;clear hw;rcases hp with rfl|⟨u,rfl,hu⟩
 ·have HP:=Lib.hid (show zis S B (ps0.map (·.1)) t (ps0.map (·.1))from⟨Hw.out,fun f g s=>⟨.inl,fun h=>h.elim id (fun h=>by
   obtain⟨_,a,F,G,h1,_⟩:=h;omega)⟩⟩)
  clear hv hS;unfold spV;go_enter Tryz.func85,Tryz.ntmps85;go_wp2_with(first|(go_at_call 99;refine(zma _ _ _ _ t S _ (h.ext jX)).mono ?_;rintro e w1 ⟨rfl,hE1⟩));go_ret;exact⟨ps0,A0,c0,rfl,hss.ext jX,HP.out,by exact jX⟩
 ·obtain⟨F,hF,hfm⟩:=zqc hS ht
  obtain⟨G,hG,hgm⟩:=zqc hS hu;rw[hB]at hF hG hfm hgm;have HF:=Lib.hid hF;have HG:=Lib.hid hG;have HB:=Lib.hid hB;have Hv:=Lib.hid hv;clear hF hG hB hv hS;by_cases hb:F.o≠ -1∧G.o≠ -1∧G.s<F.s
  ·have Hbb:=Lib.hid (show decide (F.o≠ -1∧G.o≠ -1∧G.s<F.s)=true from decide_eq_true hb)
   have HP:=Lib.hid (show∀f g,zev S B t f g↔f=t/B∧g=u/B from fun f g=>by
    constructor
    ·rintro⟨a,F',G',h1,h2,h3,h4,h5,_⟩
     have:a=u:=by have:=Hv.out;omega
     subst this;exact⟨h4,h5⟩
    ·rintro⟨rfl,rfl⟩
     exact⟨u,F,G,Hv.out,hu,ht,rfl,rfl,HF.out,HG.out,hb⟩)
   clear hb;unfold spV;go_enter Tryz.func85,Tryz.ntmps85;go_wp2_with(first|(go_at_call 99;refine(zfb _ _ _ _ t u B S F G _ _ (h.ext jX) HB.out hs8 ht hu hwl HF.out HG.out Hbb.out).mono ?_;rintro e w1 ⟨rfl,hE1⟩)|(go_at_call 100;refine(ziq _ _ ps0 (t/B) (u/B) t _ (hss.ext jX) Hw.out hfm hgm (by omega)).mono ?_;rintro e w1 ⟨ps,A2,c2,rfl,hO2,hw2,hi2,hE2⟩));go_ret;refine⟨ps,A2,c2,rfl,hO2,⟨hw2,fun f g s=> ?_⟩,by exact jX⟩;rw[hi2,HP.out];constructor
   ·rintro(h|⟨h1,h2,h3⟩)
    ·exact .inl h
    ·exact .inr ⟨h3,h1,h2⟩
   ·rintro(h|⟨h1,h2,h3⟩)
    ·exact .inl h
    ·exact .inr ⟨h2,h3,h1⟩
  ·have Hbb:=Lib.hid (show decide (F.o≠ -1∧G.o≠ -1∧G.s<F.s)=false from decide_eq_false hb)
   have HP:=Lib.hid (show zis S B (ps0.map (·.1)) t (ps0.map (·.1))from⟨Hw.out,fun f g s=>⟨.inl,fun h=>h.elim id (fun h=>by
    obtain⟨_,a,F',G',h1,h2,h3,h4,h5,h6,h7,h8⟩:=h;have:a=u:=by have:=Hv.out;omega
    subst this;rw[h4,HF.out]at h6;rw[h5,HG.out]at h7;injection h6 with h6;injection h7 with h7;subst h6 h7;exact absurd h8 hb)⟩⟩)
   clear hb;unfold spV;go_enter Tryz.func85,Tryz.ntmps85;go_wp2_with(first|(go_at_call 99;refine(zfb _ _ _ _ t u B S F G _ _ (h.ext jX) HB.out hs8 ht hu hwl HF.out HG.out Hbb.out).mono ?_;rintro e w1 ⟨rfl,hE1⟩)|(go_at_call 100;refine(ziq _ _ ps0 (t/B) (u/B) t _ (hss.ext jX) Hw.out hfm hgm (by omega)).mono ?_;rintro e w1 ⟨ps,A2,c2,rfl,hO2,hw2,hi2,hE2⟩));go_ret;exact⟨ps0,A0,c0,rfl,hss.ext jX,HP.out,by exact jX⟩
def q9:List (AO×AO) ->List Value
 | []=> []
 |p::l=> .int .i64 (p.1.f 0):: .int .i64 (p.2.f 0)::q9 l
theorem zcx: ∀l,(q9 l).length=l.length*2
 | []=>rfl
 |f::l=>by simp only[q9,List.length_cons,zcx l];omega
theorem zfc: ∀(l:List (AO×AO)) (k:Nat) (p:AO×AO),l[k]? =some p->(q9 l)[k*2]? =some (.int .i64 (p.1.f 0))∧(q9 l)[k*2+1]? =some (.int .i64 (p.2.f 0))
 | [],k,f,h=>by simp at h
 |g::l,0,f,h=>by
  simp only[List.getElem?_cons_zero,Option.some.injEq]at h;subst h;exact⟨rfl,rfl⟩
 |g::l,k+1,f,h=>by
  simp only[List.getElem?_cons_succ]at h;have:=zfc l k f h;rw[show(k+1)*2=k*2+1+1 by omega];exact this
theorem kk: ∀(l m:List (AO×AO)),q9 (l++m)=q9 l++q9 m
 | [],m=>rfl
 |g::l,m=>by simp only[List.cons_append,q9,kk l m]
theorem zqd{w:World}{A:Option Addr}{n:Nat}{l:List (AO×AO)}(h:Rd w A n 2 (q9 l)){k:Nat}{p:AO×AO}(hk:l[k]? =some p): ∃b o,A=some ⟨b,o,none⟩∧w.cell? ⟨b,o+k*2,none⟩=some (.int .i64 (p.1.f 0))∧w.cell? ⟨b,o+k*2+1,none⟩=some (.int .i64 (p.2.f 0)):=by
 have hn:l.length=n:=by have:=h.1;rw[zcx]at this;omega
 have hkl:=(List.getElem?_eq_some_iff.1 hk).1;obtain⟨b,o,hA,hc⟩:=h.2 (by omega);obtain⟨h1,h2⟩:=zfc l k p hk;exact⟨b,o,hA,hc _ _ h1,by rw[Nat.add_assoc];exact hc _ _ h2⟩
def adW(S:Sp)(v:Int):Prop:=v=0∨∃u:Nat,v=(u:Int)+1∧u<S.ws.length
def zr1(S:Sp)(L:List Ch)(B:Nat)(o:AO):Prop:= ∃x∈L,∃b:Ob,o=zZ B x.c b∧b.o+b.n<=x.c.length*B∧b.r<=15∧b.d<=32∧S.ws[zy x.c B b.o]? =some (hd b.r b.d)∧∀e,e<b.r->zy x.c B (b.o+(1+e))<S.ws.length∧adW S (S.w (zy x.c B (b.o+(1+e))))
def vv(o:AO):List Nat:=(List.range o.r).map fun e=>o.f (1+e)
def zjw(sl:List Nat)(M:List (AO×AO))(s:Nat):Prop:=s∈sl∨∃p∈M,s∈vv p.2
def zaz(S:Sp)(B:Nat)(ss:List St)(T:Nat->Prop)(ss':List St):Prop:=WfS ss'∧∀f g s,inS ss' f g s↔inS ss f g s∨(T s∧zev S B s f g)
theorem zaz.note{S:Sp}{B t:Nat}{ss s1 s2:List St}{T T':Nat->Prop}(h:zaz S B ss T s1)(hn:zis S B s1 t s2)(hT: ∀s,T' s↔T s∨s=t):zaz S B ss T' s2:=by
 refine⟨hn.1,fun f g s=> ?_⟩;rw[hn.2,h.2,hT];constructor
 ·rintro((h|h)|⟨rfl,h⟩)
  ·exact .inl h
  ·exact .inr ⟨.inl h.1,h.2⟩
  ·exact .inr ⟨.inr rfl,h⟩
 ·rintro(h|⟨h|rfl,hp⟩)
  ·exact .inl (.inl h)
  ·exact .inl (.inr ⟨h,hp⟩)
  ·exact .inr ⟨rfl,hp⟩
theorem zaz.same{S:Sp}{B:Nat}{ss s1:List St}{T T':Nat->Prop}(h:zaz S B ss T s1)(hT: ∀s,T' s↔T s):zaz S B ss T' s1:=⟨h.1,fun f g s=>by rw[h.2,hT]⟩
theorem zjx{B:Nat}{c:List Nat}{b:Ob}:vv (zZ B c b)=xE c B b.o b.r:=by
 unfold vv xE;refine List.map_congr_left fun e he=> ?_
 have:=List.mem_range.1 he;exact yn (by show 1+e<b.n;unfold Ob.n;have:e<b.r:=this;omega)
theorem zcy{c:List Nat}{B p k j:Nat}(h:j<k):(xE c B p k)[j]? =some (zy c B (p+(1+j))):=by
 unfold xE;rw[List.getElem?_map,List.getElem?_range h];rfl
theorem zcz(A Bf:Option Addr)(a b t:Nat)(S:Sp)(L:List Ch)(x:Ch)(B p r d:Nat)(w:World)(h:SRd w S A Bf)(hS:Chs S L)(hx:x∈L)(hB:2^S.sh=B)(hp:p+(r+d)<x.c.length*B)(hr:r<=15)(hd':d<=32)(hh:S.ws[zy x.c B p]? =some (hd r d))(ht:zy x.c B p=t)(F:List Nat)(hF:xE x.c B p r=F):
 Calls Tryz.prog 121 #[spV S A a Bf b,.int .i64 (t:Int)] w (zcu w F):=by
 subst ht hF;exact zgy A Bf a b S L x B p r d w h hS hx hB hp hr hd' hh
theorem zjy(A Bf A0 D0 SL MV:Option Addr)(a b c0 d0 sc mc B:Nat)(S:Sp)(L:List Ch)(ps0:List (St×Value))(l:List Inc)(sl:List Nat)(M:List (AO×AO))(w:World)(h:SRd w S A Bf)(hS:Chs S L)(hB:2^S.sh=B)(hss:SetO w 0 A0 c0 ps0)(hw:WfS (ps0.map (·.1)))(hl:Rd w D0 l.length 5 (zQ l))(hn:l.length<=1000)
 (hsl:Rd w SL sl.length 1 (yb (yB sl))) (hsb:sl.length<=100000) (hmv:Rd w MV M.length 2 (q9 M)) (hmb:M.length<=100000) (hs: ∀t∈sl,t<S.ws.length∧adW S (S.w t)) (hm: ∀p∈M,zr1 S L B p.2):
 Calls Tryz.prog 111 #[spV S A a Bf b,.slice A0 ps0.length c0,.slice D0 l.length d0,.slice SL sl.length sc,.slice MV M.length mc] w
  (zg3 w (zaz S B (qH (qn S.fs l S.fs.length) (ps0.map (·.1))) (zjw sl M))):=by
 unfold spV;have hS4:=hS.n2.2;have hflen:=zbp S.fs l S.fs.length;have HS:=Lib.hid hS;have HB:=Lib.hid hB;have Hw:=Lib.hid hw;have HSL:=Lib.hid hs;have HM:=Lib.hid hm;clear hS hw hB hs hm;go_enter Tryz.func111,Tryz.ntmps111;go_upto_region 1 with fail;have kS:Blk (w.alloc (.cells #[.int .i64 S.sh,.slice A S.ws.length a,.slice Bf S.fs.length b] 29)) w.heap.size 29 #[.int .i64 S.sh,.slice A S.ws.length a,.slice Bf S.fs.length b]:=Blk.new rfl;have hE0:=Ext.alloc (Ext.refl w) (.cells #[.int .i64 S.sh,.slice A S.ws.length a,.slice Bf S.fs.length b] 29);generalize w.alloc (.cells #[.int .i64 S.sh,.slice A S.ws.length a,.slice Bf S.fs.length b] 29)=W at*;have cS:=kS.cell;have lS:=kS.lt;go_wp2_with(first|(go_at_call 119;refine(zau _ _ _ _ _ _ S l _ (h.ext jX) hS4 (hl.ext jX) hn).mono ?_;rintro e w1 ⟨F,cf,rfl,hF,hE1⟩;have kS1:=kS.ext hE1)|(go_at_call 122;refine(zl7 _ _ _ _ ps0 _ _ (hss.ext jX) Hw.out (Rd.of_own hF) (by omega)).mono ?_;rintro e w1 ⟨ps,A2,c2,rfl,hO2,hd2,hE2⟩));have kS2:=kS1.ext hE2;have hE02:Ext w w1:=hE0.trans (hE1.trans hE2)
 have HR0:=Lib.hid (show zaz S B (qH (qn S.fs l S.fs.length) (ps0.map (·.1))) (fun s=>s∈sl.take 0) (ps.map (·.1))from by
  refine⟨by rw[hd2];exact zl6 Hw.out,fun f g s=> ?_⟩;rw[hd2];simp)
 obtain⟨wc,hwc⟩: ∃wc,wc=w1:=⟨_,rfl⟩;subst hwc;obtain⟨b0,hb0⟩: ∃b0,w.heap.size=b0:=⟨_,rfl⟩;rw[hb0]at kS2|-;clear cS lS kS kS1 hE0 hE1 hE2 hF hd2 hb0;go_loopw [11,27] (fun s i wr=> ∃(k:Nat) (qs:List (St×Value)) (D:Option Addr) (d':Nat),k<=sl.length∧i= .int .i64 k∧s= .slice D qs.length d'∧SetO wr 0 D d' qs∧zaz S B (qH (qn S.fs l S.fs.length) (ps0.map (·.1))) (fun s=>s∈sl.take k) (qs.map (·.1))∧Ext wc wr) (fun _ i _=>sl.length-(intOf i).toNat);case atStart=>exact⟨0,ps,A2,c2,by omega,rfl,rfl,hO2,HR0.out,by exact jX⟩
 case round=>
  obtain⟨k,qs,D,d',hk,rfl,rfl,hQ,hR,hEr⟩:=hrel;have HR:=Lib.hid hR;have hEw:=hE02.trans hEr;have kS3:=kS2.ext hEr;have cS:=kS3.cell;have lS:=kS3.lt;clear hR;by_cases hlt:k<sl.length
  ·have hdec:decide ((k:Int)<sl.length)=true:=by simp;omega
   have hdec':decide (k<sl.length)=true:=by simp;omega
   have hkI:(k:Int)<sl.length:=by omega
   obtain⟨t,ht⟩: ∃t,sl[k]? =some t:=⟨_,List.getElem?_eq_getElem hlt⟩;obtain⟨htl,hpt⟩:=HSL.out t (List.mem_of_getElem? ht);obtain⟨v,hv⟩: ∃v,S.ws[t]? =some v:=⟨_,List.getElem?_eq_getElem htl⟩;have hvw:S.w t=v:=by unfold Sp.w;rw[List.getD_eq_getElem?_getD,hv];rfl
   rw[hvw]at hpt;have Hp:=Lib.hid hpt;have Hv:=Lib.hid hvw;obtain⟨bL,oL,rfl,z0⟩:=vn (hsl.ext hEw) (jM ht);obtain⟨bW,oW,rfl,r0⟩:=xw (h.W.ext hEw) hv;have lL:=zh z0;have lW:=zh r0;have htI:(t:Int)<S.ws.length:=by omega
   have Ht:=Lib.hid ht;clear ht hpt hv hvw;go_wp2_with fail;refine jRE [(true,0),(true,1),(true,2),(true,3),(true,4),(true,5),(true,6),(true,7),(false,8),(true,9)] Tryz.mixed fun hx=> ?_
   repeat(first
    |refine jLE hx ?_
    |refine jLS ?_
    |(refine yo hx (fun K hK=> ?_);go_simp;go_at_call 85;refine(zbr _ _ _ _ _ _ t B v S L qs _ (h.ext jX) HS.out HB.out (hQ.ext jX) HR.out.1 htl Hv.out Hp.out).mono ?_;rintro e w1 ⟨q2,A2,c2,rfl,hO2,hP2,hE3⟩;refine hK _ _ (hE3) ?_;clear hK hx;intro hx;refine jq ?_)
    |(refine yo hx (fun K hK=> ?_);go_simp;(first|refine hK _ _ jX ?_|refine hK undef _ jX ?_);clear hK hx;intro hx;try refine jq ?_))
   refine zH ?_;go_wp2_with fail;go_roundw;case rel=>exact⟨k+1,q2,A2,c2,by omega,by go_num,rfl,hO2,HR.out.note hP2 (fun s=>by rw[List.take_add_one,Ht.out,List.mem_append];simp),by exact jX⟩
   case measure=>simp[intOf];omega
  ·have hdec:decide ((k:Int)<sl.length)=false:=by simp;omega
   have hdec':decide (k<sl.length)=false:=by simp;omega
   have hke:k=sl.length:=by omega
   have HR1:=Lib.hid (HR.out.same (T':=fun s=>s∈sl∨∃p∈M.take 0,s∈vv p.2) (fun s=>by rw[hke,List.take_length];simp));clear hke;go_wp2_with fail;obtain⟨wd,hwd⟩: ∃wd,wd=wr:=⟨_,rfl⟩;subst hwd;have hEd:=hEw;have kSd:=kS3;clear hEw hEr cS lS hE02 kS2;go_loopw [11,43] (fun s i wr=> ∃(k:Nat) (qs:List (St×Value)) (D:Option Addr) (d':Nat),k<=M.length∧i= .int .i64 k∧s= .slice D qs.length d'∧SetO wr 0 D d' qs∧zaz S B (qH (qn S.fs l S.fs.length) (ps0.map (·.1))) (fun s=>s∈sl∨∃p∈M.take k,s∈vv p.2) (qs.map (·.1))∧Ext wd wr) (fun _ i _=>M.length-(intOf i).toNat);case atStart=>exact⟨0,qs,D,d',by omega,rfl,rfl,hQ,HR1.out,by exact jX⟩
   case round=>
    clear hQ HR HR1 HR0 hO2 kS3;obtain⟨k,qs,D,d',hk,rfl,rfl,hQ,hR,hEr⟩:=hrel;have HR:=Lib.hid hR;have hEw:=hEd.trans hEr;clear hR;by_cases hlt:k<M.length
    ·have hdec:decide ((k:Int)<M.length)=true:=by simp;omega
     have hdec':decide (k<M.length)=true:=by simp;omega
     have hkI:(k:Int)<M.length:=by omega
     obtain⟨p,hp⟩: ∃p,M[k]? =some p:=⟨_,List.getElem?_eq_getElem hlt⟩;obtain⟨x,hx,ob,he,hbd,hr15,hd32,hh,hsl2⟩:=HM.out p (List.mem_of_getElem? hp);obtain⟨bM,oM,rfl,m0,m1⟩:=zqd (hmv.ext hEw) hp;have lM:=zh m0;obtain⟨t0,ht0⟩: ∃t0,p.2.f 0=t0:=⟨_,rfl⟩;have h0:zy x.c B ob.o=t0:=by rw[<-ht0,he,yn (by unfold Ob.n;omega)];rfl
     obtain⟨F,hF⟩: ∃F,xE x.c B ob.o ob.r=F:=⟨_,rfl⟩
     have Htk:=Lib.hid (show∀s,(s∈sl∨∃q∈M.take (k+1),s∈vv q.2)↔(s∈sl∨∃q∈M.take k,s∈vv q.2)∨s∈F from fun s=>by
      rw[List.take_add_one,hp,<-hF,<-zjx,<-he];constructor
      ·rintro(h|⟨q,hq,h⟩)
       ·exact .inl (.inl h)
       ·rcases List.mem_append.1 hq with hq|hq
        ·exact .inl (.inr ⟨q,hq,h⟩)
        ·simp only[Option.toList,List.mem_singleton]at hq
         subst hq;exact .inr h
      ·rintro((h|⟨q,hq,h⟩)|h)
       ·exact .inl h
       ·exact .inr ⟨q,List.mem_append_left _ hq,h⟩
       ·exact .inr ⟨p,List.mem_append_right _ (by simp),h⟩)
     have hFl:F.length=ob.r:=by rw[<-hF,vW]
     have HFl:=Lib.hid hFl;have hFb:F.length<=15:=by omega
     have hob:ob.o+(ob.r+ob.d)<x.c.length*B:=by unfold Ob.n at hbd;omega
     rw[ht0]at m1;have Ht0:=Lib.hid h0;have HF:=Lib.hid hF;have Hh:=Lib.hid hh;have Hx:=Lib.hid hx;have Hs2:=Lib.hid hsl2;have hF15:ob.r<=15:=hr15;clear hp he ht0 h0 hF hFl hh hx hsl2 hbd;go_upto_region 10 with fail;have kM:Blk (wr.alloc (.cells #[.int .i64 (p.1.f 0),.int .i64 t0] 211)) wr.heap.size 211 #[.int .i64 (p.1.f 0),.int .i64 t0]:=Blk.new rfl;have hEM:=Ext.alloc (Ext.refl wr) (.cells #[.int .i64 (p.1.f 0),.int .i64 t0] 211);have hQ1:=hQ.ext hEM;have hEw1:=hEw.trans hEM;have hEr1:=hEr.trans hEM;generalize wr.alloc (.cells #[.int .i64 (p.1.f 0),.int .i64 t0] 211)=W at*;have hSb:Blk W b0 29 #[.int .i64 S.sh,.slice A S.ws.length a,.slice Bf S.fs.length b]:=kSd.ext hEr1;have cM:=kM.cell;have lM:=kM.lt;have cS:=hSb.cell;have lS:=hSb.lt;go_wp2_with(first|(go_at_call 121;refine(zcz _ _ _ _ _ S L x B ob.o ob.r ob.d _ (h.ext jX) HS.out Hx.out HB.out hob hr15 hd32 Hh.out Ht0.out F HF.out).mono ?_;rintro e w1 ⟨FA,fc,rfl,hFo,hE1⟩));have hFr:=Rd.of_own hFo;have hEw2:=hEw1.trans hE1;have hEr2:=hEr1.trans hE1;have hQ2:=hQ1.ext hE1;have kS4:=hSb.ext hE1;obtain⟨we,hwe⟩: ∃we,we=w1:=⟨_,rfl⟩;subst hwe;clear cM lM cS lS hFo hE1 hEM hQ hQ1 hEw1 hEr1 hSb kM;go_loopw [11,56] (fun s i wr=> ∃(j:Nat) (qj:List (St×Value)) (D:Option Addr) (d':Nat),j<=F.length∧i= .int .i64 j∧s= .slice D qj.length d'∧SetO wr 0 D d' qj∧zaz S B (qH (qn S.fs l S.fs.length) (ps0.map (·.1))) (fun s=>(s∈sl∨∃p∈M.take k,s∈vv p.2)∨s∈F.take j) (qj.map (·.1))∧Ext we wr) (fun _ i _=>F.length-(intOf i).toNat);case atStart=>exact⟨0,qs,D,d',by omega,rfl,rfl,hQ2,HR.out.same (fun s=>by simp),by exact jX⟩
     case round=>
      clear hQ2;obtain⟨j,qs,D,d',hj,rfl,rfl,hQ,hR,hEj⟩:=hrel;replace HR:=Lib.hid hR;have hEw3:=hEw2.trans hEj;have kS5:=kS4.ext hEj;have cS:=kS5.cell;have lS:=kS5.lt;clear hR;by_cases hjl:j<F.length
      ·have hjec:decide ((j:Int)<F.length)=true:=by simp;omega
       have hjec':decide (j<F.length)=true:=by simp;omega
       have hjI:(j:Int)<F.length:=by omega
       have hjr:j<ob.r:=by have:=HFl.out;omega
       have hFj:F[j]? =some (zy x.c B (ob.o+(1+j))):=by rw[<-HF.out];exact zcy hjr
       obtain⟨htl,hpt⟩:=Hs2.out j hjr;obtain⟨t,ht⟩: ∃t,zy x.c B (ob.o+(1+j))=t:=⟨_,rfl⟩;rw[ht]at hFj htl hpt;obtain⟨v,hv⟩: ∃v,S.ws[t]? =some v:=⟨_,List.getElem?_eq_getElem htl⟩;have hvw:S.w t=v:=by unfold Sp.w;rw[List.getD_eq_getElem?_getD,hv];rfl
       rw[hvw]at hpt;have Hp:=Lib.hid hpt;have Hv:=Lib.hid hvw;obtain⟨bL,oL,rfl,z0⟩:=vn (hFr.ext hEj) (jM hFj);obtain⟨bW,oW,rfl,r0⟩:=xw (h.W.ext hEw3) hv;have lL:=zh z0;have lW:=zh r0;have htI:(t:Int)<S.ws.length:=by omega
       have Ht:=Lib.hid hFj;clear ht hpt hv hvw hFj hjr;go_wp2_with fail;refine jRE [(true,0),(true,1),(true,2),(true,3),(true,4),(true,5),(true,6),(true,7),(false,8),(true,9)] Tryz.mixed fun hx=> ?_
       repeat(first
        |refine jLE hx ?_
        |refine jLS ?_
        |(refine yo hx (fun K hK=> ?_);go_simp;go_at_call 85;refine(zbr _ _ _ _ _ _ t B v S L qs _ (h.ext jX) HS.out HB.out (hQ.ext jX) HR.out.1 htl Hv.out Hp.out).mono ?_;rintro e w1 ⟨q2,A2,c2,rfl,hO2,hP2,hE3⟩;refine hK _ _ (hE3) ?_;clear hK hx;intro hx;refine jq ?_)
        |(refine yo hx (fun K hK=> ?_);go_simp;(first|refine hK _ _ jX ?_|refine hK undef _ jX ?_);clear hK hx;intro hx;try refine jq ?_))
       refine zH ?_;go_wp2_with fail;go_roundw;case rel=>exact⟨j+1,q2,A2,c2,by omega,by go_num,rfl,hO2,HR.out.note hP2 (fun s=>by rw[List.take_add_one,Ht.out,List.mem_append];simp[or_assoc]),by exact jX⟩
       case measure=>simp[intOf];omega
      ·have hjec:decide ((j:Int)<F.length)=false:=by simp;omega
       have hjec':decide (j<F.length)=false:=by simp;omega
       have HR2:=Lib.hid (HR.out.same (T':=fun s=>s∈sl∨∃q∈M.take (k+1),s∈vv q.2) (fun s=>by rw[Htk.out,List.take_of_length_le (l:=F) (i:=j) (by omega)]));go_wp2_with fail;go_roundw;case rel=>exact⟨k+1,qs,D,d',by omega,by go_num,rfl,hQ,HR2.out,hEr2.trans hEj⟩
       case measure=>simp[intOf];omega
    ·have hdec:decide ((k:Int)<M.length)=false:=by simp;omega
     have hdec':decide (k<M.length)=false:=by simp;omega
     have hR2:=Lib.hid (HR.out.same (T':=zjw sl M) (fun s=>by unfold zjw;rw[List.take_of_length_le (l:=M) (i:=k) (by omega)]));go_wp2_with fail;go_ret;exact⟨qs,D,d',rfl,hQ,hR2.out,hEw⟩
structure WkM(w:World)(base nb g gW cW gF cF:Nat)(S:Sp)(D:Option Addr)(c:Nat)(li:List Inc)(T:In)(mA:Option Addr)(mc:Nat)(M:List (AO×AO))(e:Int):Prop where
 k:Blk w g 207 #[.int .i64 S.sh,.slice (some ⟨gW,0,none⟩) S.ws.length cW,.slice (some ⟨gF,0,none⟩) S.fs.length cF,.slice D li.length c,.int .i64 T.x.q,.int .i64 T.x.b,.int .i64 (yz T.x.c 0),.int .i64 (yp T.x.c),.int .i64 T.wd,.slice mA M.length mc,.int .i64 e]
 s:SOw w base S gW cW gF cF
 m:w.ownsRow nb 211 2 (.slice mA M.length mc) M.length (q9 M)
 i:w.ownsRow 0 144 5 (.slice D li.length c) li.length (zQ li)
 h:gW<nb∧gF<nb∧nb<=g
section
variable{w w':World} {base nb g gW cW gF cF:Nat} {S:Sp} {D:Option Addr} {c:Nat} {li:List Inc} {T:In} {mA:Option Addr} {mc:Nat} {M:List (AO×AO)} {e:Int}
theorem WkM.ext(h:WkM w base nb g gW cW gF cF S D c li T mA mc M e)(he:Ext w w'):WkM w' base nb g gW cW gF cF S D c li T mA mc M e:=⟨h.k.ext he,h.s.ext he,zm h.m he,zm h.i he,h.h⟩
end
theorem zfd(base nb g gW cW gF cF:Nat)(S:Sp)(D:Option Addr)(c:Nat)(li:List Inc)(T:In)(mA:Option Addr)(mc:Nat)(M:List (AO×AO))(e v:Int)(w:World)(hk:WkM w base nb g gW cW gF cF S D c li T mA mc M e)(he:e≠0):
 Calls Tryz.prog 120 #[.pointer (some ⟨g,0,none⟩),.int .u64 v] w fun r w'=>r= .returned (.int .u64 v)∧Ext w w':=by
 have q1:(e==0)=false:=by simpa using he
 have q2:(e !=0)=true:=by simpa using he
 have cK:=hk.k.cell;have lK:=hk.k.lt;clear he;go_enter Tryz.func120,Tryz.ntmps120;go_wp2_with fail;refine jRE [(true,0),(true,1),(true,2),(true,3),(true,4),(true,5),(true,6),(true,7),(true,8),(true,9),(true,10),(true,11),(true,12),(true,13),(true,14),(false,15),(true,16),(true,17)] Tryz.mixed fun hx=> ?_
 repeat(first
  |refine jLE hx ?_
  |refine jLS ?_
  |(refine yo hx (fun K hK=> ?_);go_simp;go_at_call 117;refine(q7 _ _ _ _ _ _ _ S L li _ (hk.s.rd.ext jX) ((Rd.of_own hk.i).ext jX) HS.out Hv.out hn _ Hbb.out).mono ?_;rintro e w1 ⟨rfl,hE1⟩;refine hK _ _ (hE1) ?_;clear hK hx;intro hx;refine jq ?_)
  |(refine yo hx (fun K hK=> ?_);go_simp;(first|refine hK _ _ jX ?_|refine hK undef _ jX ?_);clear hK hx;intro hx;try refine jq ?_))
 refine zH ?_;go_wp2_with fail;go_ret;exact⟨rfl,by exact jX⟩
theorem zfe(base nb g gW cW gF cF:Nat)(S:Sp)(L:List Ch)(D:Option Addr)(c:Nat)(li:List Inc)(T:In)(mA:Option Addr)(mc:Nat)(M:List (AO×AO))(v:Int)(w:World)(hk:WkM w base nb g gW cW gF cF S D c li T mA mc M 0)(hS:Chs S L)(hv:adW S v)(hn:li.length<=1000)(hb:yT S li v=false):
 Calls Tryz.prog 120 #[.pointer (some ⟨g,0,none⟩),.int .u64 v] w fun r w'=>r= .returned (.int .u64 v)∧Ext w w':=by
 have cK:=hk.k.cell;have lK:=hk.k.lt;have HS:=Lib.hid hS;have Hv:=Lib.hid hv;have Hbb:=Lib.hid hb;clear hS hv hb;go_enter Tryz.func120,Tryz.ntmps120;go_wp2_with fail;refine jRE [(true,0),(true,1),(true,2),(true,3),(true,4),(true,5),(true,6),(true,7),(true,8),(true,9),(true,10),(true,11),(true,12),(true,13),(true,14),(false,15),(true,16),(true,17)] Tryz.mixed fun hx=> ?_
 repeat(first
  |refine jLE hx ?_
  |refine jLS ?_
  |(refine yo hx (fun K hK=> ?_);go_simp;go_at_call 117;refine(q7 _ _ _ _ _ _ _ S L li _ (hk.s.rd.ext jX) ((Rd.of_own hk.i).ext jX) HS.out Hv.out hn _ Hbb.out).mono ?_;rintro e w1 ⟨rfl,hE1⟩;refine hK _ _ (hE1) ?_;clear hK hx;intro hx;refine jq ?_)
  |(refine yo hx (fun K hK=> ?_);go_simp;(first|refine hK _ _ jX ?_|refine hK undef _ jX ?_);clear hK hx;intro hx;try refine jq ?_))
 refine zH ?_;go_wp2_with fail;go_ret;exact⟨rfl,by exact jX⟩
theorem zmb(base nb g gW cW gF cF:Nat)(S:Sp)(L:List Ch)(D:Option Addr)(c:Nat)(li:List Inc)(T:In)(mA:Option Addr)(mc:Nat)(M:List (AO×AO))(t b2:Nat)(w:World)(hk:WkM w base nb g gW cW gF cF S D c li T mA mc M 0)(hS:Chs S L)(ht:t<S.ws.length)(hn:li.length<=1000)(hb:yT S li ((t:Int)+1)=true)(hz:S.w t=2*(b2:Int)+1)(hb2:b2<16384):
 Calls Tryz.prog 120 #[.pointer (some ⟨g,0,none⟩),.int .u64 ((t:Int)+1)] w fun r w'=>r= .returned (.int .u64 ((b2:Int)+1))∧Ext w w':=by
 have hwl:=zav hS;have cK:=hk.k.cell;have lK:=hk.k.lt;have HS:=Lib.hid hS;have Hv:=Lib.hid (show adW S ((t:Int)+1)from .inr ⟨t,rfl,ht⟩);have Hbb:=Lib.hid hb;obtain⟨z,hzt⟩: ∃z,S.ws[t]? =some z:=⟨_,List.getElem?_eq_getElem ht⟩;have Hz:=Lib.hid (show z=2*(b2:Int)+1 by rw[<-hz];unfold Sp.w;rw[List.getD_eq_getElem?_getD,hzt];rfl);obtain⟨bW,oW,he,z0⟩:=xw hk.s.rd.W hzt;simp only[Option.some.injEq,Addr.mk.injEq,and_true]at he;obtain⟨rfl,rfl⟩:=he;simp only[Nat.zero_add]at z0;have lW:=zh z0;have htI:(t:Int)<S.ws.length:=by omega
 have e3:(t:Int)+1-1=t:=by omega
 clear hS hb hz hzt;go_enter Tryz.func120,Tryz.ntmps120;go_wp2_with fail;refine jRE [(true,0),(true,1),(true,2),(true,3),(true,4),(true,5),(true,6),(true,7),(true,8),(true,9),(true,10),(true,11),(true,12),(true,13),(true,14),(false,15),(true,16),(true,17)] Tryz.mixed fun hx=> ?_
 repeat(first
  |refine jLE hx ?_
  |refine jLS ?_
  |(refine yo hx (fun K hK=> ?_);go_simp;go_at_call 117;refine(q7 _ _ _ _ _ _ _ S L li _ (hk.s.rd.ext jX) ((Rd.of_own hk.i).ext jX) HS.out Hv.out hn _ Hbb.out).mono ?_;rintro e w1 ⟨rfl,hE1⟩;refine hK _ _ (hE1) ?_;clear hK hx;intro hx;refine jq ?_)
  |(refine yo hx (fun K hK=> ?_);go_simp;(first|refine hK _ _ jX ?_|refine hK undef _ jX ?_);clear hK hx;intro hx;try refine jq ?_))
 refine zH ?_;have hk1:=hk.ext (show Ext w w1 by exact jX);have cK:=hk1.k.cell;have lK:=hk1.k.lt;have z1:=zp (show Ext w w1 by exact jX) z0;have lW1:=zh z1;have hE2:Ext w w1:=by exact jX
 go_wp2_with(first|(go_at_call 66;refine(zgx z b2 _ hb2 Hz.out).mono ?_;rintro e w1 ⟨rfl,rfl⟩));go_ret;exact⟨rfl,hE2⟩
def zc0(w':World)(base gW cW gF cF:Nat)(S:Sp)(L:List Ch)(x:Ch)(wd n B:Nat)(q b f l k ad e:Int):Prop:=
 (e=4∧SOw w' base S gW cW gF cF)∨
  (e=0∧∃(fs:List Fr) (c:List Nat),q=x.q∧b=x.b∧f=yz c 0∧l=yp c∧k=((wd+n:Nat):Int)∧ad=((zy c B wd:Nat):Int)∧fs.length=S.fs.length∧yJ (wd+n) B=c.length∧(∃d,c=x.c++d)∧Chs ⟨S.sh,S.ws,fs⟩ (⟨x.q,x.b,c⟩::L)∧SOw w' base ⟨S.sh,S.ws,fs⟩ gW cW gF cF)
theorem zc0.map{w w':World}{base gW cW gF cF:Nat}{S:Sp}{L:List Ch}{x:Ch}{wd n B:Nat}{q b f l k ad e:Int}(h:zc0 w base gW cW gF cF S L x wd n B q b f l k ad e)(hm: ∀S',SOw w base S' gW cW gF cF->SOw w' base S' gW cW gF cF):zc0 w' base gW cW gF cF S L x wd n B q b f l k ad e:=by
 rcases h with⟨h1,h2⟩|⟨h1,fs,c,a1,a2,a3,a4,a5,a6,a7,a8,a9,a10,a11⟩
 ·exact .inl ⟨h1,hm _ h2⟩
 ·exact .inr ⟨h1,fs,c,a1,a2,a3,a4,a5,a6,a7,a8,a9,a10,hm _ a11⟩
def zmc(w:World)(base gW cW gF cF:Nat)(S:Sp)(L:List Ch)(x:Ch)(wd n B:Nat)(r:Ending)(w':World):Prop:=
 ∃(q b f l k:Int) (ad e:Int),r= .returned (.tuple #[.agg #[.int .i64 q,.int .i64 b,.int .i64 f,.int .i64 l,.int .i64 k],.int .i64 ad,.int .i64 e])∧But [gF] w w'∧zc0 w' base gW cW gF cF S L x wd n B q b f l k ad e
theorem zg4(gW cW gF cF base:Nat)(S:Sp)(L:List Ch)(x:Ch)(wd n B:Nat)(z:Int)(w:World)(h:SOw w base S gW cW gF cF)(hS:Chs S (x::L))(hB:2^S.sh=B)(hwd:yJ wd B=x.c.length)(h1:1<=n)(h2:n<=48)(hbase:base<=w.heap.size)(hz:z=(n:Int)):
 Calls Tryz.prog 76 #[spV S (some ⟨gW,0,none⟩) cW (some ⟨gF,0,none⟩) cF,zeq x wd,.int .i64 z] w (zmc w base gW cW gF cF S L x wd n B):=by
 subst hz;refine(zlr gW cW gF cF base S L x wd n B w h hS hB hwd h1 h2 hbase).mono ?_;rintro r w' (⟨hr,hE⟩|⟨fs,c,hr,a1,a2,a3,a4,a5,a6⟩)
 ·exact⟨0,0,0,0,0,0,4,hr,hE.but _,.inl ⟨rfl,h.ext hE⟩⟩
 ·exact⟨_,_,_,_,_,_,_,hr,a6,.inr ⟨rfl,fs,c,rfl,rfl,rfl,rfl,rfl,rfl,a1,a2,a3,a4,a5⟩⟩
structure CpI(ws:List Int)(S:Sp)(c:List Nat)(wd:Nat)(x:Ch)(p B k:Nat):Prop where
 wl:ws.length=S.ws.length
 hc: ∀j,j<k->ws[zy c B (wd+j)]? =S.ws[zy x.c B (p+j)]?
 ho: ∀t,(∀j,j<k->t≠zy c B (wd+j)) ->ws[t]? =S.ws[t]?
theorem CpI.start(S:Sp)(c:List Nat)(wd:Nat)(x:Ch)(p B:Nat):CpI S.ws S c wd x p B 0:=⟨rfl,fun j h=>by omega,fun _ _=>rfl⟩
theorem CpI.step{ws:List Int}{S:Sp}{c:List Nat}{wd p B k:Nat}{x:Ch}{z:Int}(h:CpI ws S c wd x p B k)(hz:S.ws[zy x.c B (p+k)]? =some z)(hl:zy c B (wd+k)<ws.length)(hn: ∀j,j<k->zy c B (wd+j)≠zy c B (wd+k)):CpI (ws.set (zy c B (wd+k)) z) S c wd x p B (k+1):=by
 refine⟨by rw[List.length_set];exact h.wl,fun j hj=> ?_,fun t ht=> ?_⟩
 ·rcases Nat.lt_or_ge j k with hlt|hge
  ·rw[List.getElem?_set_ne (fun e=>hn j hlt e.symm)]
   exact h.hc j hlt
  ·have:j=k:=by omega
   subst this;rw[List.getElem?_set_self hl,hz]
 ·rw[List.getElem?_set_ne (fun e=>ht k (by omega) e.symm)]
  exact h.ho t (fun j hj=>ht j (by omega))
theorem zff{S:Sp}{L:List Ch}{x y:Ch}{B i j:Nat}(h:Chs S L)(hx:x∈L)(hy:y∈L)(hB:2^S.sh=B)(hi:i<x.c.length*B)(hj:j<y.c.length*B)(hxy:x.q≠y.q):zy x.c B i≠zy y.c B j:=fun e=>by
 have hb:=(yG h.sh).1;rw[hB]at hb;exact hxy (by rw[(qx h (by omega) hx hy hi hj e).1])
def mvS(g gW gF:Nat)(mA:Option Addr)(n mc:Nat):List Nat:=g::gW::gF::(Value.slice mA n mc).ownBlock.toList
def zqv(w:World)(base nb g gW cW gF cF:Nat)(S:Sp)(D:Option Addr)(c:Nat)(li:List Inc)(T:In)(mA:Option Addr)(mc:Nat)(M:List (AO×AO))(t:Nat)(r:Ending)(w':World):Prop:=
 r= .returned (.int .u64 ((t:Int)+1))∧WkM w' base nb g gW cW gF cF S D c li T mA mc M 4∧But (mvS g gW gF mA M.length mc) w w'
def zo5(w:World)(base nb g gW cW gF cF:Nat)(S:Sp)(L:List Ch)(D:Option Addr)(c:Nat)(li:List Inc)(T:In)(mA:Option Addr)(mc:Nat)(M:List (AO×AO))(x:Ch)(p rr d B:Nat)(r:Ending)(w':World):Prop:=
 ∃(fs:List Fr) (tc:List Nat) (ws:List Int) (mA':Option Addr) (mc':Nat),r= .returned (.int .u64 ((zy tc B T.wd:Nat)+1:Int))∧fs.length=S.fs.length∧yJ (T.wd+(1+rr+d)) B=tc.length∧(∃e,tc=T.x.c++e)∧
  Chs ⟨S.sh,ws,fs⟩ (⟨T.x.q,T.x.b,tc⟩::L)∧(∃ws1,CpI ws1 S tc T.wd x p B (rr+d+1)∧ws=ws1.set (zy x.c B p) (2*(zy tc B T.wd:Nat)+1))∧
  WkM w' base nb g gW cW gF cF ⟨S.sh,ws,fs⟩ D c li ⟨⟨T.x.q,T.x.b,tc⟩,T.wd+(1+rr+d),T.obs++ [⟨T.wd,rr,d⟩]⟩ mA' mc' (M++ [(zZ B x.c ⟨p,rr,d⟩,zZ B tc ⟨T.wd,rr,d⟩)]) 0∧But (mvS g gW gF mA M.length mc) w w'
def zo6(w:World)(base nb g gW cW gF cF:Nat)(S:Sp)(L:List Ch)(D:Option Addr)(c:Nat)(li:List Inc)(T:In)(mA:Option Addr)(mc:Nat)(M:List (AO×AO))(x:Ch)(p t rr d B:Nat)(r:Ending)(w':World):Prop:=
 zqv w base nb g gW cW gF cF S D c li T mA mc M t r w'∨zo5 w base nb g gW cW gF cF S L D c li T mA mc M x p rr d B r w'
theorem zit(A Bf:Option Addr)(a b t:Nat)(S:Sp)(L:List Ch)(x:Ch)(B p r d:Nat)(w:World)(h:SRd w S A Bf)(hS:Chs S L)(hx:x∈L)(hB:2^S.sh=B)(hp:p+(r+d)<x.c.length*B)(hr:r<=15)(hd':d<=32)(hh:S.ws[zy x.c B p]? =some (hd r d))(ht:zy x.c B p=t):
 Calls Tryz.prog 41 #[spV S A a Bf b,.int .i64 (t:Int)] w fun e w'=>e= .returned (.tuple #[.int .i64 (r:Int),.int .i64 (d:Int),.int .i64 0])∧Ext w w':=by
 subst ht;exact qU A Bf a b S L x B p r d w h hS hx hB hp hr hd' hh
section
variable{w w':World} {base nb g gW cW gF cF:Nat} {S:Sp} {D:Option Addr} {c:Nat} {li:List Inc} {T:In} {mA:Option Addr} {mc:Nat} {M:List (AO×AO)} {e:Int}
theorem WkM.keep(h:WkM w base nb g gW cW gF cF S D c li T mA mc M e){X:List Nat}(hB:But X w w')(hX: ∀b∈X,b=g∨b=gF∨b=gW):
 w'.ownsRow nb 211 2 (.slice mA M.length mc) M.length (q9 M)∧w'.ownsRow 0 144 5 (.slice D li.length c) li.length (zQ li):=by
 constructor
 ·refine zo h.m hB (fun b hb hm=> ?_)
  rcases hX b hm with rfl|rfl|rfl
  ·exact zN h.m h.k (by decide) hb
  ·exact yk h.m h.s.F (by decide) hb rfl
  ·exact yk h.m h.s.W (by decide) hb rfl
 ·refine zo h.i hB (fun b hb hm=> ?_)
  rcases hX b hm with rfl|rfl|rfl
  ·exact zN h.i h.k (by decide) hb
  ·exact yk h.i h.s.F (by decide) hb rfl
  ·exact yk h.i h.s.W (by decide) hb rfl
theorem WkM.ne(h:WkM w base nb g gW cW gF cF S D c li T mA mc M e):g≠gW∧g≠gF∧gW≠gF:=by
 have:=h.h;exact⟨by omega,by omega,h.s.ne⟩
theorem WkM.space{S':Sp}(h:WkM w base nb g gW cW gF cF S D c li T mA mc M e)(hB:But [gW,gF] w w')(hs:SOw w' base S' gW cW gF cF)(h1:S'.sh=S.sh)(h2:S'.ws.length=S.ws.length)(h3:S'.fs.length=S.fs.length):WkM w' base nb g gW cW gF cF S' D c li T mA mc M e:=by
 obtain⟨hm,hi⟩:=h.keep hB (fun b hb=>by simp only[List.mem_cons,List.not_mem_nil,or_false]at hb;omega);refine⟨?_,hs,hm,hi,h.h⟩;rw[h1,h2,h3];exact h.k.but hB (by have:=h.ne;simp;omega)
theorem WkM.own_(h:WkM w base nb g gW cW gF cF S D c li T mA mc M e)(hB:But [g] w w'){T':In}{e':Int}(hk:Blk w' g 207 #[.int .i64 S.sh,.slice (some ⟨gW,0,none⟩) S.ws.length cW,.slice (some ⟨gF,0,none⟩) S.fs.length cF,.slice D li.length c,.int .i64 T'.x.q,.int .i64 T'.x.b,.int .i64 (yz T'.x.c 0),.int .i64 (yp T'.x.c),.int .i64 T'.wd,.slice mA M.length mc,.int .i64 e']):WkM w' base nb g gW cW gF cF S D c li T' mA mc M e':=by
 obtain⟨hm,hi⟩:=h.keep hB (fun b hb=>by simp only[List.mem_cons,List.not_mem_nil,or_false]at hb;omega);have:=h.ne;exact⟨hk,h.s.but hB (by simp;omega) (by simp;omega),hm,hi,h.h⟩
end
theorem Tryz.elM:Elem Tryz.prog 193 211 (.agg #[.int .i64 0,.int .i64 0]) 2 16:=⟨Tryz.underlying193,by kernel_rfl,rfl,by omega⟩
theorem zjz(base nb g gW cW gF cF:Nat)(S:Sp)(L:List Ch)(D:Option Addr)(c:Nat)(li:List Inc)(T:In)(mA:Option Addr)(mc:Nat)(M:List (AO×AO))(x:Ch)(p t r d B:Nat)(w:World)(hk:WkM w base nb g gW cW gF cF S D c li T mA mc M 0)(hbw:base<=w.heap.size)(hS:Chs S (T.x::L))(hx:x∈L)(hB:2^S.sh=B)(hwd:yJ T.wd B=T.x.c.length)(hn:li.length<=1000)(hM:M.length<=100000)
 (hp:p+(r+d)<x.c.length*B) (hr:r<=15) (hd':d<=32) (ht:zy x.c B p=t) (hh:S.ws[zy x.c B p]? =some (hd r d)) (hb:yT S li ((t:Int)+1)=true):
 Calls Tryz.prog 120 #[.pointer (some ⟨g,0,none⟩),.int .u64 ((t:Int)+1)] w (zo6 w base nb g gW cW gF cF S L D c li T mA mc M x p t r d B):=by
 have hwl:=zav hS;have cK:=hk.k.cell;have lK:=hk.k.lt;have htl:t<S.ws.length:=by rw[<-ht];exact(List.getElem?_eq_some_iff.1 hh).1
 have Hv:=Lib.hid (show adW S ((t:Int)+1)from .inr ⟨t,rfl,htl⟩);have Hbb:=Lib.hid hb;have Hx:=Lib.hid (show x∈T.x::L from List.mem_cons_of_mem _ hx);have Hx0:=Lib.hid hx;have HS:=Lib.hid hS;have HB:=Lib.hid hB;have Hwd:=Lib.hid hwd;have Hh:=Lib.hid hh;have Ht:=Lib.hid ht;rw[ht]at hh;obtain⟨z,hz⟩: ∃z,hd r d=z:=⟨_,rfl⟩;rw[hz]at hh;have Hz:=Lib.hid hz.symm;obtain⟨bW,oW,he,z0⟩:=xw hk.s.rd.W hh;simp only[Option.some.injEq,Addr.mk.injEq,and_true]at he;obtain⟨rfl,rfl⟩:=he;simp only[Nat.zero_add]at z0;have lW:=zh z0;have htI:(t:Int)<S.ws.length:=by omega
 have e3:(t:Int)+1-1=t:=by omega
 clear hS hb hz hh hx hB hwd ht;go_enter Tryz.func120,Tryz.ntmps120;go_wp2_with fail;refine jRE [(true,0),(true,1),(true,2),(true,3),(true,4),(true,5),(true,6),(true,7),(true,8),(true,9),(true,10),(true,11),(true,12),(true,13),(true,14),(false,15),(true,16),(true,17)] Tryz.mixed fun hx=> ?_
 repeat(first
  |refine jLE hx ?_
  |refine jLS ?_
  |(refine yo hx (fun K hK=> ?_);go_simp;go_at_call 117;refine(q7 _ _ _ _ _ _ _ S _ li _ (hk.s.rd.ext jX) ((Rd.of_own hk.i).ext jX) HS.out Hv.out hn _ Hbb.out).mono ?_;rintro e w1 ⟨rfl,hE1⟩;refine hK _ _ (hE1) ?_;clear hK hx;intro hx;refine jq ?_)
  |(refine yo hx (fun K hK=> ?_);go_simp;(first|refine hK _ _ jX ?_|refine hK undef _ jX ?_);clear hK hx;intro hx;try refine jq ?_))
 refine zH ?_;have hk1:=hk.ext (show Ext w w1 by exact jX);have cK:=hk1.k.cell;have lK:=hk1.k.lt;have z1:=zp (show Ext w w1 by exact jX) z0;have lW1:=zh z1;have hEw1:Ext w w1:=by exact jX
 clear hx;obtain⟨wa,hwa⟩: ∃wa,wa=w1:=⟨_,rfl⟩;subst hwa;go_wp2_with(first|(go_at_call 66;refine(zas z r d _ hr hd' Hz.out).mono ?_;rintro e w1 ⟨rfl,rfl⟩)|(go_at_call 41;refine(zit _ _ _ _ t S (T.x::L) x B p r d _ (hk1.s.rd) HS.out Hx.out HB.out hp hr hd' Hh.out Ht.out).mono ?_;rintro e w1 ⟨rfl,hE2⟩));have hk2:=hk1.ext hE2;have hEw2:=hEw1.trans hE2;obtain⟨wb,hwb⟩: ∃wb,wb=w1:=⟨_,rfl⟩;subst hwb;have hsb:=hEw2.size_le;have hlt2:=hk2.s.lt;have hh2:=hk2.h;clear cK lK z0 z1 lW lW1 hk hk1 hE1 hE2 hEw1;have cK:=hk2.k.cell;have lK:=hk2.k.lt;have hgF: ¬g=gF:=by omega
 have hgW: ¬g=gW:=by omega
 go_cut [13,14,15] (fun s13 s14 s15 wx=> ∃(x14:Nat) (q' b' f' l' k' ad ee:Int),s13= .int .i64 ee∧s14= .pointer (some ⟨x14,0,none⟩)∧s15= .int .i64 ad∧Blk wx x14 144 #[.int .i64 q',.int .i64 b',.int .i64 f',.int .i64 l',.int .i64 k']∧But [gF] wb wx∧zc0 wx base gW cW gF cF S L T.x T.wd (1+r+d) B q' b' f' l' k' ad ee)
 case first=>
  refine zn (wb.heap.size) [gF] (.take 0 (.take 1 (.take 2 (.take 3 (.take 4 (.take 5 (.take 6 (.take 7 (.take 8 (.take 9 (.take 10 (.take 11 (.alt 12 (.take 13 (.take 14 (.take 15 (.take 16 (.alt 17 (.alt 18 (.take 19 (.take 20 .done)) .none) .none))))) (.alt 17 (.alt 12 (.take 13 (.take 14 (.take 15 (.take 16 (.alt 18 (.take 19 (.take 20 .done)) .none))))) .none) .none)))))))))))))) Tryz.mixed (by kernel_rfl) ?_;intro hx;iterate 12 (first|refine jTN hx ?_|refine jTS ?_)
  refine jCN hx (fun K hK=> ?_) ?_;go_simp;go_at_call 76;refine(zg4 gW cW gF cF base S L T.x T.wd (1+r+d) B _ _ (hk2.s.ext jX) HS.out HB.out Hwd.out (by omega) (by omega) (by(first|omega|(simp;done)|(simp;omega))) (by omega)).mono ?_;rintro e w1 ⟨q',b',f',l',k',ad,ee,rfl,hBG,hG⟩;have hzG:wb.heap.size<=w1.heap.size:=Nat.le_trans (by simp) hBG.size;first|(have k15:=k14.but hBG (by simp;omega);have c14:=k15.cell;have f14:=k15.froz;have l14:=k15.lt)|skip
  refine hK _ _ ((hBG).bel _) ?_;clear hK hx;intro hx;refine jp ?_;iterate 4 (first|refine jTN hx ?_|refine jTS ?_)
  refine jTC (fun K hK=> ?_)
  skip
  go_simp;first|refine hK _ _ jN ?_|refine hK undef _ jN ?_
  clear hK;intro hr;first|(have k14:=zE hr)|(have k14:=zI hr)
  replace hx:=hx.trans hr;clear hr;refine jp ?_;refine yl hx (fun K hK=> ?_);go_simp;refine hK _ jN ?_;clear hK hx;intro hx;iterate 2 (first|refine jTN hx ?_|refine jTS ?_)
  refine zi ?_;rotate_left;refine jTC (fun K hK=> ?_)
  skip
  go_simp;first|refine hK _ _ jN ?_|refine hK undef _ jN ?_
  clear hK;intro hr;first|(have k14:=zE hr)|(have k14:=zI hr)
  replace hx:=hx.trans hr;clear hr;refine jp ?_;refine jCN hx (fun K hK=> ?_);go_simp;go_at_call 76;refine(zg4 gW cW gF cF base S L T.x T.wd (1+r+d) B _ _ (hk2.s.ext jX) HS.out HB.out Hwd.out (by omega) (by omega) (by(first|omega|(simp;done)|(simp;omega))) (by omega)).mono ?_;rintro e w1 ⟨q',b',f',l',k',ad,ee,rfl,hBG,hG⟩;have hzG:wb.heap.size<=w1.heap.size:=Nat.le_trans (by simp) hBG.size;first|(have k15:=k14.but hBG (by simp;omega);have c14:=k15.cell;have f14:=k15.froz;have l14:=k15.lt)|skip
  refine hK _ _ ((hBG).bel _) ?_;clear hK hx;intro hx;refine jp ?_;iterate 4 (first|refine jTN hx ?_|refine jTS ?_)
  refine yl hx (fun K hK=> ?_);go_simp;refine hK _ jN ?_;clear hK hx;intro hx;iterate 2 (first|refine jTN hx ?_|refine jTS ?_)
  refine zi ?_;rotate_left
  all_goals
   go_wp2;go_meet
   first
    |(have k16:=k15
      refine⟨wb.heap.size,q',b',f',l',k',ad,ee,rfl,rfl,rfl,((((k16.set_ 0 _).set_ 1 _).set_ 2 _).set_ 3 _).set_ 4 _,y8 (zY hx),hG.map (fun S' h=> ?_)⟩;have hb1:=But.setCell (But.setCell (But.setCell (But.setCell (But.setCell (But.refl [wb.heap.size] w1) (p:=⟨wb.heap.size,0,none⟩) (by simp) (.int .i64 q')) (p:=⟨wb.heap.size,1,none⟩) (by simp) (.int .i64 b')) (p:=⟨wb.heap.size,2,none⟩) (by simp) (.int .i64 f')) (p:=⟨wb.heap.size,3,none⟩) (by simp) (.int .i64 l')) (p:=⟨wb.heap.size,4,none⟩) (by simp) (.int .i64 k');exact h.but hb1 (by simp;omega) (by simp;omega))
    |(refine⟨w1.heap.size,q',b',f',l',k',ad,ee,rfl,rfl,rfl,Blk.new rfl,y8 (zY hx),hG.map (fun S' h=>h.ext (Ext.alloc (Ext.refl _) _))⟩)
 case rest=>
  obtain⟨x14,q',b',f',l',k',ad,ee,rfl,rfl,rfl,k14,hBx,hD⟩:=hcut;have hBx2:But [gW,gF] wb wc:=But.more hBx (by simp);have hszx:=hBx.size;clear cK lK;rcases hD with⟨rfl,hs⟩|⟨rfl,fs,tc,rfl,rfl,rfl,rfl,rfl,rfl,hfl,hcl,hpre,hC,hs⟩
  ·have hk3:=hk2.space hBx2 hs rfl rfl rfl
   have cK:=hk3.k.cell;have fK:=hk3.k.froz;have lK:=hk3.k.lt;go_wp2_with fail;go_ret;refine .inl ⟨rfl,hk3.own_ (But.setCell (But.refl _ _) (by simp) _) (hk3.k.set_ 10 _),?_⟩;exact But.setCell (But.trans (hEw2.but _) (But.more hBx2 (by simp[mvS]))) (by simp[mvS]) _
  ·have hk3:=hk2.space hBx2 hs rfl rfl hfl
   obtain⟨n2,hn2⟩: ∃n2,T.wd+(1+r+d)=n2:=⟨_,rfl⟩;rw[hn2]at hcl k14;have hnb:=xL (wd:=n2) (n:=tc.length) (B:=B) (by have:=(yG HS.out.sh).1;rw[HB.out]at this;omega) (Nat.le_of_eq hcl);have hn2a:T.wd+(1+r+d)<=n2:=Nat.le_of_eq hn2;have Hn2:=Lib.hid hn2;have cK:=hk3.k.cell;have fK:=hk3.k.froz;have lK:=hk3.k.lt;have c14:=k14.cell;have l14:=k14.lt;obtain⟨q0,hq0⟩: ∃q0,zy tc B T.wd=q0:=⟨_,rfl⟩;rw[hq0];have Hq0:=Lib.hid hq0;have HC:=Lib.hid hC;have Hfl:=Lib.hid hfl;have Hcl:=Lib.hid hcl;have Hpre:=Lib.hid hpre;clear hq0 hC hfl hcl hpre hn2;go_upto_region 16 with fail
   have hk4:=hk3.own_ (T':=⟨⟨T.x.q,T.x.b,tc⟩,n2,T.obs++ [⟨T.wd,r,d⟩]⟩) (e':=0) (But.setCell (But.setCell (But.setCell (But.setCell (But.setCell (But.refl [g] wc) (p:=⟨g,4,none⟩) (by simp) (.int .i64 T.x.q)) (p:=⟨g,5,none⟩) (by simp) (.int .i64 T.x.b)) (p:=⟨g,6,none⟩) (by simp) (.int .i64 (yz tc 0))) (p:=⟨g,7,none⟩) (by simp) (.int .i64 (yp tc))) (p:=⟨g,8,none⟩) (by simp) (.int .i64 (n2:Int)))
    (((((hk3.k.set_ 4 _).set_ 5 _).set_ 6 _).set_ 7 _).set_ 8 _)
   have hB4:But [g,gW,gF] wb ((((((wc.setCell ⟨g,4,none⟩ (.int .i64 T.x.q)).setCell ⟨g,5,none⟩ (.int .i64 T.x.b)).setCell ⟨g,6,none⟩ (.int .i64 (yz tc 0))).setCell ⟨g,7,none⟩ (.int .i64 (yp tc))).setCell ⟨g,8,none⟩ (.int .i64 (n2:Int)))):=But.setCell (But.setCell (But.setCell (But.setCell (But.setCell (But.more hBx2 (by simp)) (by simp) _) (by simp) _) (by simp) _) (by simp) _) (by simp) _;clear cK fK lK c14 l14 k14 hk3 hs;generalize(((((wc.setCell ⟨g,4,none⟩ (.int .i64 T.x.q)).setCell ⟨g,5,none⟩ (.int .i64 T.x.b)).setCell ⟨g,6,none⟩ (.int .i64 (yz tc 0))).setCell ⟨g,7,none⟩ (.int .i64 (yp tc))).setCell ⟨g,8,none⟩ (.int .i64 (n2:Int)))=we at*
   have Hxq:=Lib.hid (show x.q≠T.x.q from fun e=>by
    have hq:=HS.out.sq;simp only[List.map_cons,List.nodup_cons,List.mem_map,not_exists,not_and]at hq;exact hq.1 x Hx0.out e)
   have Hx1:=Lib.hid (show x∈⟨T.x.q,T.x.b,tc⟩::L from List.mem_cons_of_mem _ Hx0.out);go_wp2_with fail;go_loopw [16] (fun s wr=> ∃(k:Nat) (ws:List Int),k<=r+d+1∧s= .int .i64 k∧CpI ws S tc T.wd x p B k∧Chs ⟨S.sh,ws,fs⟩ (⟨T.x.q,T.x.b,tc⟩::L)∧WkM wr base nb g gW cW gF cF ⟨S.sh,ws,fs⟩ D c li ⟨⟨T.x.q,T.x.b,tc⟩,n2,T.obs++ [⟨T.wd,r,d⟩]⟩ mA mc M 0∧But [g,gW,gF] wb wr) (fun s _=>r+d+1-(intOf s).toNat);case atStart=>exact⟨0,S.ws,by omega,rfl,CpI.start _ _ _ _ _ _,HC.out,hk4,hB4⟩
   case round=>
    clear hk4 hB4 HC;obtain⟨k,ws,hk0,rfl,hcp,hC,hk5,hB5⟩:=hrel;have HC:=Lib.hid hC;have Hcp:=Lib.hid hcp;have cK:=hk5.k.cell;have fK:=hk5.k.froz;have lK:=hk5.k.lt;have hwsl:=hcp.wl;have hw1:ws.length<=16384:=by omega
    clear hC hcp hwsl;by_cases hlt:k<=r+d
    ·have d1:decide ((k:Int)<=(r:Int)+d)=true:=by(first|omega|(simp;done)|(simp;omega))
     have hsx:=(Chs.word HC.out Hx1.out HB.out (p:=p+k) (by omega) 0).1;have hsq:=(Chs.word HC.out List.mem_cons_self HB.out (p:=T.wd+k) (show T.wd+k<tc.length*B by omega) 0).1;obtain⟨zk,hzk⟩: ∃zk,S.ws[zy x.c B (p+k)]? =some zk:=⟨_,List.getElem?_eq_getElem (by have:=Hcp.out.wl;simp only at hsx;omega)⟩;have hzw:ws[zy x.c B (p+k)]? =some zk:=(Hcp.out.ho _ (fun j hj=>zff HC.out Hx1.out List.mem_cons_self HB.out (by omega) (show T.wd+j<tc.length*B by omega) Hxq.out)).trans hzk;have Hcp2:=Lib.hid (Hcp.out.step hzk hsq (fun j hj=>zim HC.out List.mem_cons_self HB.out (show T.wd+j<tc.length*B by omega) (show T.wd+k<tc.length*B by omega) (by omega)));have HC2:=Lib.hid (Chs.word HC.out List.mem_cons_self HB.out (p:=T.wd+k) (show T.wd+k<tc.length*B by omega) zk).2;obtain⟨ap,hap⟩: ∃ap,zy x.c B (p+k)=ap:=⟨_,rfl⟩;obtain⟨aq,haq⟩: ∃aq,zy tc B (T.wd+k)=aq:=⟨_,rfl⟩;rw[hap]at hsx hzw;rw[haq]at hsq;have Hap:=Lib.hid hap;have Haq:=Lib.hid haq;simp only at hsx hsq;have apI:(ap:Int)<ws.length:=by omega
     have aqI:(aq:Int)<ws.length:=by omega
     have Hzw:=Lib.hid hzw;clear hap haq hzk hzw;go_wp2_with fail;go_at_call 65;refine(vV _ _ cW cF ⟨S.sh,ws,fs⟩ (⟨T.x.q,T.x.b,tc⟩::L) x B p k t ap _ _ hk5.s.rd HC.out Hx1.out HB.out (by omega) rfl Ht.out Hap.out).mono ?_;rintro e w1 ⟨rfl,hE6⟩;have hk6:=hk5.ext hE6;clear cK fK lK;have cK:=hk6.k.cell;have lK:=hk6.k.lt;go_wp2_with fail;go_at_call 65;refine(vV _ _ cW cF ⟨S.sh,ws,fs⟩ (⟨T.x.q,T.x.b,tc⟩::L) ⟨T.x.q,T.x.b,tc⟩ B T.wd k q0 aq _ _ hk6.s.rd HC.out List.mem_cons_self HB.out (show T.wd+k<tc.length*B by omega) rfl Hq0.out Haq.out).mono ?_;rintro e w2 ⟨rfl,hE7⟩;have hk7:=hk6.ext hE7;clear cK lK;have cK:=hk7.k.cell;have fK:=hk7.k.froz;have lK:=hk7.k.lt;obtain⟨bW,oW,he,zc⟩:=xw hk7.s.rd.W Hzw.out;simp only[Option.some.injEq,Addr.mk.injEq,and_true]at he;obtain⟨rfl,rfl⟩:=he;simp only[Nat.zero_add]at zc;have lW:=zh zc;have fW:=(zz hk7.s.W).2;obtain⟨zq,hzq⟩: ∃zq,ws[aq]? =some zq:=⟨_,List.getElem?_eq_getElem hsq⟩;obtain⟨bQ,oQ,he,zd⟩:=xw hk7.s.rd.W hzq;simp only[Option.some.injEq,Addr.mk.injEq,and_true]at he;obtain⟨rfl,rfl⟩:=he;simp only[Nat.zero_add]at zd;clear hzq;go_wp2_with fail;refine zn (w2.heap.size) [gW] (.take 0 (.take 1 (.take 2 (.take 3 (.take 4 (.take 5 (.take 6 (.take 7 (.take 8 (.take 9 (.take 10 (.take 11 (.take 12 (.alt 13 (.take 14 (.alt 15 .done .none)) .none)))))))))))))) Tryz.mixed (by kernel_rfl) ?_;intro hx;iterate 13 (first|refine jTN hx ?_|refine jTS ?_)
     refine jCN hx (fun K hK=> ?_);go_simp;first|refine hK _ _ jN ?_|refine hK undef _ jN ?_
     clear hK hx;intro hx;refine jp ?_;first|refine jTN hx ?_|refine jTS ?_
     refine yl hx (fun K hK=> ?_);go_simp;refine hK _ ((Bel.setIn (Bel.refl _ _ _) (by simp) _)) ?_;clear hK hx;intro hx;refine zi ?_;go_wp2;go_roundw
     case rel=>
      have hB8:But [g,gW,gF] wb (w2.setCell ⟨gW,aq,none⟩ (.int .u64 zk)).drew:=(But.setCell ((hB5.trans (hE6.but _)).trans (hE7.but _)) (by simp) _).drew;have hk8:=hk7.space (S':=⟨S.sh,ws.set aq zk,fs⟩) ((But.setCell (But.refl _ _) (by simp) _).drew) ((hk7.s.word aq zk).ext (Ext.drew (Ext.refl _))) rfl (by simp) rfl;have h1:=Hcp2.out;have h2:=HC2.out;simp only[Haq.out]at h1 h2;exact⟨k+1,ws.set aq zk,by omega,by go_num,h1,h2,hk8,hB8⟩
     case measure=>simp[intOf];omega
    ·have d1:decide ((k:Int)<=(r:Int)+d)=false:=by(first|omega|(simp;done)|(simp;omega))
     have hke:k=r+d+1:=by omega
     have Hcp3:=Lib.hid (show CpI ws S tc T.wd x p B (r+d+1) by rw[<-hke];exact Hcp.out);have hsx:=(Chs.word HC.out Hx1.out HB.out (p:=p) (by omega) 0).1;have HC3:=Lib.hid (Chs.word HC.out Hx1.out HB.out (p:=p) (by omega) (2*(q0:Int)+1)).2;have hq0l:=(Chs.word HC.out List.mem_cons_self HB.out (p:=T.wd) (show T.wd<tc.length*B by omega) 0).1;simp only at hsx hq0l;rw[Ht.out]at hsx;rw[Hq0.out]at hq0l;have hq016:q0<16384:=by omega
     have twI:(t:Int)<ws.length:=by omega
     clear hke;obtain⟨zt,hzt⟩: ∃zt,ws[t]? =some zt:=⟨_,List.getElem?_eq_getElem hsx⟩;obtain⟨bW,oW,he,zc⟩:=xw hk5.s.rd.W hzt;simp only[Option.some.injEq,Addr.mk.injEq,and_true]at he;obtain⟨rfl,rfl⟩:=he;simp only[Nat.zero_add]at zc;have lW:=zh zc;have fW:=(zz hk5.s.W).2;clear hzt;obtain⟨wf,hwf⟩: ∃wf,wf=wr:=⟨_,rfl⟩;subst hwf;go_wp2_with fail;refine zn (wf.heap.size) [gW] (.take 0 (.take 1 (.take 2 (.take 3 (.take 4 (.take 5 (.take 6 (.alt 7 (.take 8 (.take 9 (.take 10 (.take 11 (.alt 12 .done .none))))) .none)))))))) Tryz.mixed (by kernel_rfl) ?_;intro hx;iterate 7 (first|refine jTN hx ?_|refine jTS ?_)
     refine jCN hx (fun K hK=> ?_);go_simp;go_at_call 125;refine(zey q0 _ hq016).mono ?_;rintro e w1 ⟨rfl,rfl⟩;refine hK _ _ ((Ext.refl _).bel _) ?_;clear hK hx;intro hx;refine jp ?_;iterate 4 (first|refine jTN hx ?_|refine jTS ?_)
     refine yl hx (fun K hK=> ?_);go_simp;refine hK _ ((Bel.setIn (Bel.refl _ _ _) (by simp) _)) ?_;clear hK hx;intro hx;refine zi ?_;have hk6:=hk5.space (S':=⟨S.sh,ws.set t (2*(q0:Int)+1),fs⟩) (But.setCell (But.refl _ _) (by simp) (.int .u64 (2*(q0:Int)+1))) (hk5.s.word t (2*(q0:Int)+1)) rfl (by simp) rfl;replace hk6:=hk6.ext (Ext.drew (Ext.refl _));have hB6:But [g,gW,gF] wb (wf.setCell ⟨gW,t,none⟩ (.int .u64 (2*(q0:Int)+1))).drew:=(But.setCell hB5 (by simp) _).drew;clear cK fK lK zc lW fW hx;generalize(wf.setCell ⟨gW,t,none⟩ (.int .u64 (2*(q0:Int)+1))).drew=wg at*;have hsg:=hB6.size;have hh6:=hk6.h;have cK:=hk6.k.cell;have lK:=hk6.k.lt;have hgb:nb<=wg.heap.size:=by omega
     clear cK lK;have cK:=hk6.k.cell;have lK:=hk6.k.lt;go_wp2_with(first|(at_builtin;refine zJ rfl Tryz.elM _ _ rfl nb _ _ _ rfl (z8 hk6.m _) _ 1 1 _ rfl (yF _ [_,_] 211 1 2 rfl) (by simp[Value.oneCell']) (by omega) (by omega) (by(first|omega|(simp;done)|(simp;omega))) ?_;intro A2 c2 w3 hown3 hg3 hat3;have hB9:=zL hg3;have k3:=(hk6.k.alloc (.cells #[.int .i64 t,.int .i64 q0] 211)).but hB9 (fun hm=>zN hk6.m hk6.k (by decide) (Option.mem_toList.1 hm));have cK:=k3.cell;have fK:=k3.froz;have lK:=k3.lt));go_ret;have hne:=hk6.ne;have hi3:=zo (z8 hk6.i (.cells #[.int .i64 t,.int .i64 q0] 211)) hB9 (fun b hb hm=>yk hk6.i hk6.m (by decide) hb (Option.mem_toList.1 hm));have hs3:=(hk6.s.ext (Ext.alloc (Ext.refl _) (.cells #[.int .i64 t,.int .i64 q0] 211))).but hB9 (fun hm=>yk hk6.m hk6.s.W (by decide) (Option.mem_toList.1 hm) rfl) (fun hm=>yk hk6.m hk6.s.F (by decide) (Option.mem_toList.1 hm) rfl);have hBg:But [g] w3 (w3.setCell ⟨g,9,none⟩ (.slice A2 (M.length+1) c2)):=But.setCell (But.refl _ _) (by simp) _
     have hm4:=zo hown3 hBg (fun b hb hm=>by
      have:=List.mem_singleton.1 hm;subst this;exact zN hown3 k3 (by decide) hb)
     have hi4:=zo hi3 hBg (fun b hb hm=>by
      have:=List.mem_singleton.1 hm;subst this;exact zN hi3 k3 (by decide) hb)
     have h1:=HC3.out;rw[Ht.out]at h1;refine .inr ⟨fs,tc,ws.set t (2*(q0:Int)+1),A2,c2,?_,Hfl.out,?_,Hpre.out,h1,⟨ws,Hcp3.out,?_⟩,?_,?_⟩
     ·rw[Hq0.out];rfl
     ·rw[Hn2.out];exact Hcl.out
     ·rw[Ht.out,Hq0.out]
     ·rw[Hn2.out]
      refine⟨?_,hs3.far (by simp;omega) (by simp;omega) _,?_,hi4,hk6.h⟩
      ·rw[List.length_append]
       exact k3.set_ 9 _
      ·rw[kk,List.length_append]
       have e1:(zZ B x.c ⟨p,r,d⟩).f 0=t:=by rw[yn (by unfold Ob.n;omega)];exact Ht.out
       have e2:(zZ B tc ⟨T.wd,r,d⟩).f 0=q0:=by rw[yn (by unfold Ob.n;omega)];exact Hq0.out
       have e3:q9 [(zZ B x.c ⟨p,r,d⟩,zZ B tc ⟨T.wd,r,d⟩)]= [.int .i64 t,.int .i64 q0]:=by simp only[q9,e1,e2]
       rw[e3];exact hm4
     ·refine But.setCell (But.trans (hEw2.but _) (But.trans (But.more hB6 (by simp[mvS])) (But.trans (But.alloc (But.refl _ _) _) (But.more hB9 (fun q hq=> ?_))))) (by simp[mvS]) _
      simp only[mvS,List.mem_cons];exact .inr (.inr (.inr hq))
end Go.Proofs.YtopcdfbplknmlaaGreat
