/- Part of the proof of the claim: walks and plain laws; each theorem states its own conditions. -/
import Derived.Test.YtopcdfbplknmlaaGreatL
import Derived.Test.YtopcdfbplknmlaaGreatG23
import Derived.Test.YtopcdfbplknmlaaGreatG22
import Derived.Test.YtopcdfbplknmlaaGreatG25
import Derived.Test.YtopcdfbplknmlaaGreatG26
import Derived.Test.YtopcdfbplknmlaaGreatG21
import Derived.Test.YtopcdfbplknmlaaGreatG20
import Derived.Test.YtopcdfbplknmlaaGreatG24
import Derived.Laws.FloatArith
import Derived.Laws.Cover2
set_option linter.all false
set_option maxHeartbeats 8000000
set_option maxRecDepth 100000
namespace Go.Proofs.YtopcdfbplknmlaaGreat.Mo
open Go.RowKit Go.Draw
theorem zh5(v:Value)(g:Gr)(w:World)(hg:GRd w v g)(hv:Vld g)(hb:Bd g):Calls Tryz.prog 46 #[v] w fun r w'=>r= .returned (.int .i64 (jz g))∧Ext w w':=by
 obtain⟨A0,a0,B0,b0,C0,c0,rfl⟩:=hg.sl;have hb0:=hb.1;have hle:=zhy hb.2.2.2;have hll:=zch g;clear hb;go_enter Tryz.func46,Tryz.ntmps46;go_wp2_with(first|(go_at_call 70;refine(zgo _ g _ (hg.ext jX) hv hb0).mono ?_;rintro e w1 ⟨A,c,rfl,hO,hE1⟩;have k1:=(zbj hE1);have m1:=k1.cell));have hg1:=hg.ext ((Ext.alloc (Ext.refl w) (.cells #[.slice A0 g.ns.length a0,.slice B0 g.us.length b0,.slice C0 g.rs.length c0] 41)).trans hE1);have hEw:Ext w w1:=(Ext.alloc (Ext.refl w) _).trans hE1;have hz:=hEw.size_le;simp only[zcj]at hO|-;have hRd:=Rd.of_own hO;clear hO hg;obtain⟨L,hL⟩: ∃L,qY g=L:=⟨_,rfl⟩;have hLt: ∀n∈L,n<g.ns.length:=fun n hn=>zkz (by rw[hL];exact hn)
 have HL:=Lib.hid (show jz g=za2 g L by unfold jz;rw[hL]);rw[hL]at hRd hll|-
 have hle2: ∀k,za2 g (L.take k)<=6001000:=fun k=>by
  have h1:=hle (L.take k);have h2:(L.take k).length<=L.length:=by simp;omega
  omega
 clear hL hle;have HLt:=Lib.hid hLt;clear hLt;go_loopw [3,9] (fun t i wr=> ∃k:Nat,k<=L.length∧i= .int .i64 k∧t= .int .i64 (za2 g (L.take k))∧Ext w1 wr) (fun _ i _=>L.length-(intOf i).toNat);case atStart=>exact⟨0,by omega,rfl,rfl,Ext.refl _⟩
 case round=>
  clear m1;obtain⟨k,hk,rfl,rfl,hEr⟩:=hrel;have m1:=(k1.ext hEr).cell;have hS:=hle2 k;obtain⟨S,hSe⟩: ∃S,za2 g (L.take k)=S:=⟨_,rfl⟩;rw[hSe]at hS|-;have HS:=Lib.hid hSe;clear hSe;by_cases hlt:k<L.length
  ·have hdec:decide ((k:Int)<L.length)=true:=by simp;omega
   have hdec':decide (k<L.length)=true:=by simp;omega
   have hkb:(k:Int)<L.length:=by omega
   obtain⟨n,hn⟩: ∃n,L[k]? =some n:=⟨_,List.getElem?_eq_getElem hlt⟩;have hnl:=HLt.out n (List.mem_of_getElem? hn);obtain⟨bb,oo,u,rfl,hu,hc⟩:=(hRd.ext hEr).at_ hlt;have hu2:(yb (zeb L))[k]? =some (.int .i64 (n:Int)):=xq (by simp[zeb,hn]);rw[hu2]at hu;injection hu with hu;subst hu;obtain⟨x,hx⟩: ∃x,g.ns[n]? =some x:=⟨_,List.getElem?_eq_getElem hnl⟩;obtain⟨ba,oa,R,cR,D,cD,rfl,q0,q1,_,_,lq⟩:=(hg1.ext hEr).node hx;have hnd:=hv.nd n x hx;have x1:=hnd.1;have x2:=hnd.2.1;have Hn:=Lib.hid hn;have Hx:=Lib.hid hx;have lbb:=zh hc;have nb:(n:Int)<g.ns.length:=by omega
   clear hn hx hnd hu2;go_upto_region 5 with fail;refine jRE [(true,0),(true,1),(true,2),(true,3),(true,4),(true,5),(true,6),(true,7),(true,8),(true,9),(true,10),(true,11),(true,12),(true,13),(true,14),(true,15),(true,16),(true,17),(true,18)] Tryz.mixed fun hx=> ?_
   repeat(first
    |refine jLE hx ?_
    |refine jLS ?_
    |(refine yo hx (fun K hK=> ?_);go_simp;(first|refine hK _ _ jX ?_|refine hK undef _ jX ?_);clear hK hx;intro hx;try refine jq ?_))
   refine zH ?_;go_wp2;go_roundw
   case rel=>
    refine⟨k+1,by omega,by go_num,?_,by exact jX⟩;rw[List.take_add_one,Hn.out,Option.toList_some,znz,HS.out,List.getD_eq_getElem?_getD,Hx.out];simp only[Option.getD_some,jD]
    go_num
   case measure=>simp[intOf];omega
  ·have hdec:decide ((k:Int)<L.length)=false:=by simp;omega
   have hdec':decide (k<L.length)=false:=by simp;omega
   have hkn:k=L.length:=by omega
   subst hkn;go_wp2;go_ret;exact⟨xQ (by rw[HL.out,<-HS.out,List.take_length]),hEw.trans hEr⟩
theorem zn2{g:Gr}(hb:Bd g):jz g<=6001000:=by
 have h1:=zhy hb.2.2.2 (qY g);have h2:=zch g;have h3:=hb.1;show za2 g (qY g)<=_;omega
theorem zn3{w:World}{b n:Nat}{t:TypeId}{cs:Array Value}(h:Blk w b t cs)(hn:b≠n)(x y z:Value):Blk (((w.setCell ⟨n,0,none⟩ x).setCell ⟨n,1,none⟩ y).setCell ⟨n,2,none⟩ z) b t cs:=
 ((h.far (p:=⟨n,0,none⟩) hn x).far (p:=⟨n,1,none⟩) hn y).far (p:=⟨n,2,none⟩) hn z
theorem zn4{w:World}{b n:Nat}{t:TypeId}{cs:Array Value}(h:Blk w b t cs)(hn:b≠n)(x y:Value):Blk ((w.setCell ⟨n,0,none⟩ x).setCell ⟨n,1,none⟩ y) b t cs:=
 (h.far (p:=⟨n,0,none⟩) hn x).far (p:=⟨n,1,none⟩) hn y
theorem zn5{a w:World}{n:Nat}(h:Ext a w)(hn:a.heap.size<=n)(x y z:Value):Ext a (((w.setCell ⟨n,0,none⟩ x).setCell ⟨n,1,none⟩ y).setCell ⟨n,2,none⟩ z):=
 Ext.setCell (Ext.setCell (Ext.setCell h (p:=⟨n,0,none⟩) hn _) (p:=⟨n,1,none⟩) hn _) (p:=⟨n,2,none⟩) hn _
theorem zn6{a w:World}{n:Nat}(h:Ext a w)(hn:a.heap.size<=n)(x y:Value):Ext a ((w.setCell ⟨n,0,none⟩ x).setCell ⟨n,1,none⟩ y):=
 Ext.setCell (Ext.setCell h (p:=⟨n,0,none⟩) hn _) (p:=⟨n,1,none⟩) hn _
theorem zp1(v:Value)(g:Gr)(a b d:Int)(w:World){S:List Nat}(hSb: ∀x∈S,x<w.heap.size)(hg0:GRx S w v g)(hv:Vld g)(hb:Bd g):
 Calls Tryz.prog 21 #[v,.agg #[.int .i64 10,.int .i64 a,.int .i64 b,.int .i64 d]] w (xf S w (g,0,(jz g:Int))):=by
 have hg:=hg0.rd;have hll:=zn2 hb;obtain⟨A0,a0,B0,b0,C0,c0,rfl⟩:=hg.sl;go_enter Tryz.func21,Tryz.ntmps21;go_upto_region 2 with(go_at_call 43;refine(ym _ g _ (hg.ext jX) hb).mono ?_;rintro e w1 ⟨vA,vB,vC,qs,rfl,hG,hE1⟩;obtain⟨A1,a1,rfl⟩:=own_slice hG.nodes;obtain⟨B1,b1,rfl⟩:=own_slice hG.used;obtain⟨C1,c1,rfl⟩:=own_slice hG.roots;have kO:Blk (w1.alloc (.cells #[.slice none 0 0,.slice none 0 0,.slice none 0 0] 41)) w1.heap.size 41 #[.slice none 0 0,.slice none 0 0,.slice none 0 0]:=Blk.new rfl;have cO:=kO.cell;have fO:=kO.froz);clear kO cO fO;have hS:=yt hg hE1 hG;clear hE1 hG hg;obtain⟨k2,k3,k4,k5,kO,hG,hg,hE,hlo,hhi⟩:=hS;generalize hW:w1.alloc (.cells #[.slice A1 g.ns.length a1,.slice B1 g.us.length b1,.slice C1 g.rs.length c1] 41)=W at*;clear hW;generalize w1.heap.size=o at*;clear w1;have m2:=k2.cell;have m3:=k3.cell;have mO:=kO.cell;have f4:=k4.froz;have f5:=k5.froz;have n4:w.heap.size+1+1≠o:=by omega
 have n5:w.heap.size+1+1+1≠o:=by omega
 go_upto_region 21 with fail;have K4:=k4.drew;have K5:=k5.drew;have HEx:=Ext.drew hE;have s1:w.heap.size+1+1+1≠w.heap.size+1+1:=by omega
 have s2:w.heap.size+1+1≠w.heap.size+1+1+1:=by omega
 have t1:w.heap.size<=w.heap.size+1+1:=by omega
 have t2:w.heap.size<=w.heap.size+1+1+1:=by omega
 have e4:o≠w.heap.size+1+1:=by omega
 have e5:o≠w.heap.size+1+1+1:=by omega
 have e6:w.heap.size≠w.heap.size+1+1:=by omega
 have e7:w.heap.size≠w.heap.size+1+1+1:=by omega
 have l4:=k4.lt;have l5:=k5.lt;clear f4 f5 k2 k3 k4 k5 m3;refine zM [w.heap.size+1+1,w.heap.size+1+1+1] (.take 0 (.take 1 (.alt 2 (.take 3 (.take 4 (.alt 5 (.alt 6 .done .none) .none))) .none))) Tryz.mixed (by kernel_rfl) ?_;intro hx hy;iterate 2 (first|refine jTB hx ?_|refine jTS ?_)
 refine jCB hx (fun K hK=> ?_);go_simp;go_at_call 46;refine(zh5 _ g _ (hg0.ext HEx).rd hv hb).mono ?_;rintro e w1 ⟨rfl,hE1⟩;replace K4:=K4.ext hE1;replace K5:=K5.ext hE1;replace HEx:=HEx.trans hE1;refine hK _ _ (But.more (hE1.but []) (by simp)) ?_;clear hK hx;intro hx;refine jp ?_;iterate 2 (first|refine jTB hx ?_|refine jTS ?_)
 refine jTT (fun K hK=> ?_);have hcy:=Ext.cell hy;have hfy:=Ext.froz hy;have c4:=K4.cell;have f4:=K4.froz;go_simp;refine hK _ jB ?_;clear hK;intro hr;replace K4:=((K4.set_ 0 (.slice A1 g.ns.length a1)).set_ 1 (.slice B1 g.us.length b1)).set_ 2 (.slice C1 g.rs.length c1);replace K5:=zn3 K5 s1 (.slice A1 g.ns.length a1) (.slice B1 g.us.length b1) (.slice C1 g.rs.length c1);replace HEx:=zn5 HEx t1 (.slice A1 g.ns.length a1) (.slice B1 g.us.length b1) (.slice C1 g.rs.length c1);replace hx:=hx.trans hr;clear hr;refine jTT (fun K hK=> ?_);have hcy:=Ext.cell hy;have hfy:=Ext.froz hy;have c5:=K5.cell;have f5:=K5.froz;go_simp;refine hK _ jB ?_;clear hK;intro hr;replace K5:=(K5.set_ 0 (.int .i64 0)).set_ 1 (.int .u64 (jz g));replace K4:=zn4 K4 s2 (.int .i64 0) (.int .u64 (jz g));replace HEx:=zn6 HEx t2 (.int .i64 0) (.int .u64 (jz g));replace hx:=hx.trans hr;clear hr;refine zi ?_;have hG2:=(hG.ext (Ext.drew (Ext.refl _))).but hx (fun k q hq hm=>by have:=(hG.lt k q hq).1;simp at hm;omega);have cF4:=K4.cell;have cF5:=K5.cell;go_wp2;exact bodyPost_ret (v:= .tuple #[.agg #[.slice A1 g.ns.length a1,.slice B1 g.us.length b1,.slice C1 g.rs.length c1],.agg #[.int .i64 0,.int .u64 (jz g)]]) (by simp[results,Tryz.results21,go_sem,cF4,cF5]) rfl ⟨_,rfl,hG2.rdx (fun x hx=>by have:=hSb x hx;omega),HEx⟩
theorem Vld.give{g:Gr}(h:Vld g){i:Nat}{r:Int}(h0:0<=r)(h1:r<g.ns.length):Vld ⟨g.ns,g.us.set i true,g.rs.set i r⟩:=by
 refine⟨by simpa using h.lu,by simpa using h.lr,fun j q hu hr=> ?_,fun j q hu hr=> ?_,h.nd⟩
 ·by_cases hj:i=j
  ·subst hj
   have:=(List.getElem?_eq_some_iff.1 hu).1;simp only[List.length_set]at this;simp[this]at hu
  ·simp only[List.getElem?_set_ne hj]at hu hr
   exact h.un j q hu hr
 ·by_cases hj:i=j
  ·subst hj
   have:=(List.getElem?_eq_some_iff.1 hr).1;simp only[List.length_set]at this;simp[this]at hr;subst hr;exact⟨h0,h1⟩
  ·simp only[List.getElem?_set_ne hj]at hu hr
   exact h.us j q hu hr
theorem Vld.drop{g:Gr}(h:Vld g)(i:Nat):Vld ⟨g.ns,g.us.set i false,g.rs.set i (-1)⟩:=by
 refine⟨by simpa using h.lu,by simpa using h.lr,fun j q hu hr=> ?_,fun j q hu hr=> ?_,h.nd⟩
 ·by_cases hj:i=j
  ·subst hj
   have:=(List.getElem?_eq_some_iff.1 hr).1;simp only[List.length_set]at this;simp[this]at hr;exact hr.symm
  ·simp only[List.getElem?_set_ne hj]at hu hr
   exact h.un j q hu hr
 ·by_cases hj:i=j
  ·subst hj
   have:=(List.getElem?_eq_some_iff.1 hu).1;simp only[List.length_set]at this;simp[this]at hu
  ·simp only[List.getElem?_set_ne hj]at hu hr
   exact h.us j q hu hr
theorem Vld.node{g:Gr}(h:Vld g)(m:Nat){x:List Int×List Int}(h1:x.1.length<=15)(h2:x.2.length<=32)(h3: ∀(k:Nat) (r:Int),x.1[k]? =some r-> -1<=r∧r<g.ns.length):Vld ⟨g.ns.set m x,g.us,g.rs⟩:=by
 refine⟨h.lu,h.lr,h.un,fun j q hu hr=>by simpa using h.us j q hu hr,fun j y hy=> ?_⟩;simp only[List.length_set];by_cases hj:m=j
 ·subst hj
  have:=(List.getElem?_eq_some_iff.1 hy).1;simp only[List.length_set]at this;simp[this]at hy;subst hy;exact⟨h1,h2,h3⟩
 ·simp only[List.getElem?_set_ne hj]at hy
  exact h.nd j y hy
theorem Vld.push{g:Gr}(h:Vld g){x:List Int×List Int}(h1:x.1.length<=15)(h2:x.2.length<=32)(h3: ∀(k:Nat) (r:Int),x.1[k]? =some r-> -1<=r∧r<g.ns.length):Vld ⟨g.ns++ [x],g.us,g.rs⟩:=by
 refine⟨h.lu,h.lr,h.un,fun j q hu hr=> ?_,fun j y hy=> ?_⟩
 ·have:=h.us j q hu hr
  simp only[List.length_append,List.length_singleton];omega
 ·simp only[List.length_append,List.length_singleton]
  by_cases hj:j<g.ns.length
  ·rw[List.getElem?_append_left hj]at hy
   obtain⟨k1,k2,k3⟩:=h.nd j y hy;exact⟨k1,k2,fun k r hr=>by have:=k3 k r hr;omega⟩
  ·have hl:=(List.getElem?_eq_some_iff.1 hy).1
   simp only[List.length_append,List.length_singleton]at hl;have:j=g.ns.length:=by omega
   subst this;simp at hy;subst hy;exact⟨h1,h2,fun k r hr=>by have:=h3 k r hr;omega⟩
theorem Vld.at_{g:Gr}(h:Vld g){i:Nat}(hu:g.us[i]? =some true): ∃(m:Nat) (x:List Int×List Int),i<32∧g.rs[i]? =some (m:Int)∧g.ns[m]? =some x:=by
 have hi:=(List.getElem?_eq_some_iff.1 hu).1;rw[h.lu]at hi;have hr:g.rs[i]? =some (g.rs[i]'(by rw[h.lr];exact hi)):=List.getElem?_eq_getElem _;have:=h.us i _ hu hr;refine⟨(g.rs[i]'(by rw[h.lr];exact hi)).toNat,g.ns[(g.rs[i]'(by rw[h.lr];exact hi)).toNat]'(by omega),hi,?_,List.getElem?_eq_getElem _⟩;rw[hr];congr 1;omega
structure Keeps(g:Gr)(c:Int)(x:Gr×Int×Int):Prop where
 v:Vld x.1
 n:x.1.ns.length=if c=1∧x.2.1=0 then g.ns.length+1 else g.ns.length
 e:x.2.1≠0->x.1=g∧x.2.2=0
 no:x.2.1≠18∧x.2.1≠19
theorem xg{g:Gr}(h:Vld g){c e:Int}(h0:e≠0)(h1:e≠18)(h2:e≠19):Keeps g c (g,e,0):=⟨h,by simp[h0],fun _=>⟨rfl,rfl⟩,h1,h2⟩
theorem qr{g:Gr}(h:Vld g){c v:Int}(hc:c≠1):Keeps g c (g,0,v):=⟨h,by simp[hc],fun h=>absurd rfl h,by show(0:Int)≠18;omega,by show(0:Int)≠19;omega⟩
theorem jF{g g':Gr}(h:Vld g'){c v:Int}(hc:c≠1)(hn:g'.ns.length=g.ns.length):Keeps g c (g',0,v):=⟨h,by simp[hc,hn],fun h=>absurd rfl h,by show(0:Int)≠18;omega,by show(0:Int)≠19;omega⟩
theorem kK(g:Gr)(x:Int)(need:Bool):yi g x need=0∨yi g x need=14∨yi g x need=16:=by
 unfold yi
 repeat' split
 all_goals simp
theorem zrj{g:Gr}(h:Vld g){x:Int}{need:Bool}(he:yi g x need=0): -1<=hNd g x∧hNd g x<g.ns.length:=by
 rcases jE h.lu he with⟨rfl,_⟩|⟨i,rfl,hi,hu⟩
 ·rw[zgl];omega
 ·obtain⟨m,x,_,hr,hx⟩:=h.at_ hu
  rw[zb9 g i _ hr];have:=(List.getElem?_eq_some_iff.1 hx).1;omega
theorem zh6{g:Gr}(h:Vld g){m:Nat}{x:List Int×List Int}(hx:g.ns[m]? =some x){c:Int}(hc:c≠1)(a b d:Int):Keeps g c (xh g m c a b d):=by
 have hn:=h.nd m x hx;have e:g.ns.getD m ([],[])=x:=by rw[List.getD_eq_getElem?_getD,hx];rfl
 unfold xh;rw[e];split
 ·exact jF (h.drop _) hc rfl
 split
 ·exact qr h hc
 split
 ·split
  ·exact xg h (by omega) (by omega) (by omega)
  ·exact qr h hc
 split
 ·split
  ·exact xg h (by omega) (by omega) (by omega)
  ·refine jF (h.node m (x:=(x.1,x.2.set b.toNat (znv d))) hn.1 (by simpa using hn.2.1) hn.2.2) hc ?_
   simp
 split
 ·exact xg h (by omega) (by omega) (by omega)
 split
 ·split
  ·rename_i he
   rcases kK g d false with h1|h1|h1
   ·exact absurd h1 he
   all_goals exact xg h he (by omega) (by omega)
  ·rename_i he
   have he:yi g d false=0:=by simpa using he
   have hd:=zrj h he;refine jF (h.node m (x:=(x.1.set b.toNat (hNd g d),x.2)) (by simpa using hn.1) hn.2.1 fun k r hr=> ?_) hc (List.length_set);by_cases hk:b.toNat=k
   ·subst hk
    have:=(List.getElem?_eq_some_iff.1 hr).1;simp only[List.length_set]at this;simp[this]at hr;subst hr;exact hd
   ·simp only[List.getElem?_set_ne hk]at hr
    exact hn.2.2 k r hr
 rename_i hb _;have hb':b.toNat<x.1.length:=by omega
 split
 ·exact qr h hc
 ·rename_i h1
  have ht:=hn.2.2 b.toNat _ (List.getElem?_eq_getElem hb');have e1:x.1.getD b.toNat 0=x.1[b.toNat]:=by rw[List.getD_eq_getElem?_getD,List.getElem?_eq_getElem hb'];rfl
  rw[e1]at h1|-;split
  ·exact jF (h.give (by omega) ht.2) hc rfl
  ·exact xg h (by omega) (by omega) (by omega)
theorem doT_keeps{g:Gr}(h:Vld g)(c a b d:Int):Keeps g c (doT g c a b d):=by
 unfold doT;split
 ·rename_i hc
  split
  ·exact xg h (by omega) (by omega) (by omega)
  ·split
   ·refine⟨?_,by simp[hc],fun h=>absurd rfl h,by show(0:Int)≠18;omega,by show(0:Int)≠19;omega⟩
    have h1:=h.push (x:=(List.replicate a.toNat (-1),List.replicate b.toNat 0)) (by simp;omega) (by simp;omega) (fun k r hr=>by
     simp only[List.getElem?_replicate]at hr;split at hr
     ·injection hr with hr;subst hr;omega
     ·cases hr)
    exact h1.give (by show(0:Int)<=(g.ns.length:Int);omega) (by simp only[List.length_append,List.length_singleton];omega)
   ·exact xg h (by omega) (by omega) (by omega)
 rename_i hc;split
 ·exact qr h hc
 split
 ·exact qr h hc
 split
 ·split
  ·rename_i he
   rcases kK g a false with h1|h1|h1
   ·exact absurd h1 he
   all_goals exact xg h he (by omega) (by omega)
  ·split
   ·rename_i he
    rcases kK g b false with h1|h1|h1
    ·exact absurd h1 he
    all_goals exact xg h he (by omega) (by omega)
   ·exact qr h hc
 split
 ·split
  ·rename_i he
   rcases kK g a true with h1|h1|h1
   ·exact absurd h1 he
   all_goals exact xg h he (by omega) (by omega)
  ·rename_i he
   have he:yi g a true=0:=by simpa using he
   rcases jE h.lu he with⟨_,h1⟩|⟨i,rfl,hi,hu⟩
   ·cases h1
   ·obtain⟨m,x,_,hr,hx⟩:=h.at_ hu
    rw[zb9 g i _ hr,Int.toNat_natCast];exact zh6 h hx hc _ _ _
 ·exact xg h (by omega) (by omega) (by omega)
theorem zn7(v:Value)(g:Gr)(c b d:Int)(i m:Nat)(x:List Int×List Int)(w:World){S:List Nat}(hSb: ∀x∈S,x<w.heap.size)(hg0:GRx S w v g)(hv:Vld g)(hb:Bd g)(hc:c=2∨c=3∨c=4∨c=5∨c=7∨c=9)(hi:i<32)(hu:g.us[i]? =some true)(hr:g.rs[i]? =some (m:Int))(hx:g.ns[m]? =some x):
 Calls Tryz.prog 21 #[v,.agg #[.int .i64 c,.int .i64 ((i:Int)+1),.int .i64 b,.int .i64 d]] w (xf S w (xh g m c ((i:Int)+1) b d)):=by
 have e:g.ns.getD m ([],[])=x:=by rw[List.getD_eq_getElem?_getD,hx];rfl
 rcases hc with rfl|rfl|rfl|rfl|rfl|rfl
 ·by_cases hk:b<0∨(x.1.length:Int)<=b
  ·have ht:xh g m 2 ((i:Int)+1) b d=(g,17,0):=by unfold xh;rw[e,if_neg (by omega),if_neg (by omega),if_neg (by omega),if_neg (by omega),if_pos hk]
   rw[ht];exact zk2 v g b d i m x w hSb hg0 hv hb hi hu hr hx hk
  ·obtain⟨k,rfl⟩: ∃k:Nat,b=k:=⟨b.toNat,by omega⟩
   have hk':k<x.1.length:=by omega
   by_cases hn:x.1.getD k 0= -1
   ·exact zpy v g d i m k x w hSb hg0 hv hb hi hu hr hx hk' hn
   ·by_cases hf:yI g.us<32
    ·exact zp0 v g d i m k x w hSb hg0 hv hb hi hu hr hx hk' hn hf
    ·exact zpz v g d i m k x w hSb hg0 hv hb hi hu hr hx hk' hn hf
 ·by_cases hk:b<0∨(x.1.length:Int)<=b
  ·have ht:xh g m 3 ((i:Int)+1) b d=(g,17,0):=by unfold xh;rw[e,if_neg (by omega),if_neg (by omega),if_neg (by omega),if_neg (by omega),if_pos hk]
   rw[ht];exact zk3 v g b d i m x w hSb hg0 hv hb hi hu hr hx hk
  ·obtain⟨k,rfl⟩: ∃k:Nat,b=k:=⟨b.toNat,by omega⟩
   have hk':k<x.1.length:=by omega
   by_cases hd:yi g d false=0
   ·exact zri v g d i m k x w hSb hg0 hv hb hi hu hr hx hk' hd
   ·exact zpx v g d i m k x w hSb hg0 hv hb hi hu hr hx hk' hd
 ·by_cases hk:b<0∨(x.2.length:Int)<=b
  ·have ht:xh g m 4 ((i:Int)+1) b d=(g,17,0):=by unfold xh;rw[e,if_neg (by omega),if_neg (by omega),if_pos rfl,if_pos hk]
   rw[ht];exact zk4 v g b d i m x w hSb hg0 hv hb hi hu hr hx hk
  ·obtain⟨k,rfl⟩: ∃k:Nat,b=k:=⟨b.toNat,by omega⟩
   exact zrg v g d i m k x w hSb hg0 hv hb hi hu hr hx (by omega)
 ·by_cases hk:b<0∨(x.2.length:Int)<=b
  ·have ht:xh g m 5 ((i:Int)+1) b d=(g,17,0):=by unfold xh;rw[e,if_neg (by omega),if_neg (by omega),if_neg (by omega),if_pos rfl,if_pos hk]
   rw[ht];exact zk5 v g b d i m x w hSb hg0 hv hb hi hu hr hx hk
  ·obtain⟨k,rfl⟩: ∃k:Nat,b=k:=⟨b.toNat,by omega⟩
   exact zrh v g d i m k x w hSb hg0 hv hb hi hu hr hx (by omega)
 ·exact zrf v g b d i m x w hSb hg0 hv hb hi hu hr hx
 ·exact zre v g b d i m x w hSb hg0 hv hb hi hu hr hx
theorem do27_any(v:Value)(g:Gr)(c a b d:Int)(w:World){S:List Nat}(hSb: ∀x∈S,x<w.heap.size)(hg0:GRx S w v g)(hv:Vld g)(hn:g.ns.length<=1000):
 Calls Tryz.prog 21 #[v,.agg #[.int .i64 c,.int .i64 a,.int .i64 b,.int .i64 d]] w (xf S w (doT g c a b d)):=by
 have hb:=hv.bd hn;by_cases h1:c=1
 ·subst h1
  by_cases hs:a<0∨15<a∨b<0∨32<b
  ·have ht:doT g 1 a b d=(g,13,0):=by simp[doT,hs]
   rw[ht];exact zky v g a b d w hSb hg0 hb hs
  ·obtain⟨p,rfl⟩: ∃p:Nat,a=p:=⟨a.toNat,by omega⟩
   obtain⟨q,rfl⟩: ∃q:Nat,b=q:=⟨b.toNat,by omega⟩;by_cases hf:yI g.us<32
   ·have ht:doT g 1 p q d=(⟨g.ns++ [(List.replicate p (-1),List.replicate q 0)],g.us.set (yI g.us) true,g.rs.set (yI g.us) g.ns.length⟩,0,(yI g.us:Int)+1):=by simp only[doT,if_true];rw[if_neg hs,if_pos hf];simp
    rw[ht];exact zh4 v g p q d w hSb hg0 hv hb (by omega) (by omega) hf
   ·have ht:doT g 1 p q d=(g,15,0):=by simp only[doT,if_true];rw[if_neg hs,if_neg hf]
    rw[ht];exact zk6 v g p q d w hSb hg0 hv hb (by omega) (by omega) hf
 by_cases h8:c=8
 ·subst h8
  have ht:doT g 8 a b d=(g,0,0):=by simp[doT]
  rw[ht];exact zrb v g a b d w hSb hg0 hb
 by_cases h10:c=10
 ·subst h10
  have ht:doT g 10 a b d=(g,0,(jz g:Int)):=by simp[doT]
  rw[ht];exact zp1 v g a b d w hSb hg0 hv hb
 by_cases h6:c=6
 ·subst h6
  exact zrd v g a b d w hSb hg0 hv hb
 by_cases hm:c=2∨c=3∨c=4∨c=5∨c=7∨c=9
 ·by_cases he:yi g a true=0
  ·have ht:doT g c a b d=xh g (hNd g a).toNat c a b d:=by unfold doT;rw[if_neg h1,if_neg h8,if_neg h10,if_neg h6,if_pos hm,if_neg (by simpa using he)]
   rw[ht];rcases jE hv.lu he with⟨_,h0⟩|⟨i,rfl,hi,hu⟩
   ·cases h0
   ·obtain⟨m,x,_,hr,hx⟩:=hv.at_ hu
    rw[zb9 g i _ hr,Int.toNat_natCast];exact zn7 v g c b d i m x w hSb hg0 hv hb hm hi hu hr hx
  ·have ht:doT g c a b d=(g,yi g a true,0):=by unfold doT;rw[if_neg h1,if_neg h8,if_neg h10,if_neg h6,if_pos hm,if_pos he]
   rw[ht];exact zn1 v g c a b d w hSb hg0 hv hb hm he
 ·have ht:doT g c a b d=(g,20,0):=by unfold doT;rw[if_neg h1,if_neg h8,if_neg h10,if_neg h6,if_neg hm]
  rw[ht];exact znx v g c a b d w hSb hg0 hb (by omega)
def newG:Gr:=⟨[],List.replicate 32 false,List.replicate 32 (-1)⟩
theorem newG_vld:Vld newG:=by
 refine⟨by simp[newG],by simp[newG],fun i r hu hr=> ?_,fun i r hu hr=> ?_,fun i x hx=>by simp[newG]at hx⟩
 ·simp only[newG,List.getElem?_replicate]at hr
  split at hr
  ·injection hr with hr;exact hr.symm
  ·cases hr
 ·simp only[newG,List.getElem?_replicate]at hu
  split at hu
  ·cases hu
  ·cases hu
theorem yq{N:Nat}{S:List Nat}{w:World}{cs:Array Value}{e:TypeId}{n:Nat}(_:Bel N S w (w.alloc (.cells cs e)))(hn:n<=1000000)(hc:cs.size=n):(w.alloc (.cells cs e)).ownsRow w.heap.size e 1 (.slice (some ⟨w.heap.size,0,none⟩) n n) n cs.toList:=by
 have:=qJ (w:=w) (cs:=cs.toList) (e:=e) (size:=1) (n:=n) rfl (Nat.le_refl _) hn (by simpa using hc);simpa using this
theorem yj{N:Nat}{S:List Nat}{w:World}{cs:Array Value}{e:TypeId}{n:Nat}(_:Bel N S w.drew (w.drew.alloc (.cells cs e)))(hn:n<=1000000)(hc:cs.size=n):(w.drew.alloc (.cells cs e)).ownsRow w.heap.size e 1 (.slice (some ⟨w.heap.size,0,none⟩) n n) n cs.toList:=yq (w:=w.drew) (N:=w.heap.size) (S:= []) ((Bel.refl _ _ _).alloc _) hn hc
def mid(k:Nat):List Int:=List.replicate k (-1)++List.replicate (32-k) 0
theorem kL{k:Nat}(h:k<=32):(mid k).length=32:=by simp[mid];omega
theorem zsb{w:World}{base n:Nat}{v:Value}{cs:Array Value}(h:w.ownsRow base 4 1 v n cs.toList)(hc:cs=(List.replicate n (Value.bool false)).toArray):w.ownsRow base 4 1 v (List.replicate n false).length (vb (List.replicate n false)):=by
 subst hc;simpa[vb]using h
theorem zsc{w:World}{base:Nat}{v:Value}{cs:Array Value}(h:w.ownsRow base 3 1 v 32 cs.toList)(hc:cs=(List.replicate 32 (Value.int .i64 0)).toArray):w.ownsRow base 3 1 v (mid 0).length (yb (mid 0)):=by
 subst hc;have e:yb (mid 0)=List.replicate 32 (Value.int .i64 0):=by simp[yb,mid]
 rw[e,kL (by omega)];exact h
theorem zp2{k:Nat}(h:k<32):(mid k).set k (-1)=mid (k+1):=by
 unfold mid;rw[List.set_append_right _ _ (by simp)];simp only[List.length_replicate,Nat.sub_self];rw[show 32-k=(32-(k+1))+1 by omega,List.replicate_succ,List.set_cons_zero,List.replicate_succ',List.append_assoc];rfl
theorem new23_any(w:World):Calls Tryz.prog 16 #[] w (zr9 w newG):=by
 obtain⟨cB,hcB⟩: ∃cB,cB=(List.replicate 32 (Value.bool false)).toArray:=⟨_,rfl⟩;obtain⟨cC,hcC⟩: ∃cC,cC=(List.replicate 32 (Value.int .i64 0)).toArray:=⟨_,rfl⟩;have mB: ∀W:World,(Instr.makeSlice 32 (.int .i64 32) (.int .i64 32)).run Tryz.prog W= .ok (.slice (some ⟨W.heap.size,0,none⟩) 32 32) (W.alloc (.cells cB 4)):=fun W=>by rw[hcB];exact js Tryz.el24 rfl 32 (by omega) (by omega) W
 have mC: ∀W:World,(Instr.makeSlice 22 (.int .i64 32) (.int .i64 32)).run Tryz.prog W= .ok (.slice (some ⟨W.heap.size,0,none⟩) 32 32) (W.alloc (.cells cC 3)):=fun W=>by rw[hcC];exact js Tryz.el22 rfl 32 (by omega) (by omega) W
 have zB:cB.size=32:=by rw[hcB];rfl
 have zC:cC.size=32:=by rw[hcC];rfl
 have HB:=Lib.hid hcB;have HC:=Lib.hid hcC;clear hcB hcC;go_enter Tryz.func16,Tryz.ntmps16;go_upto_region 1 with fail;have hX:Ext w (w.alloc (.cells #[.slice none 0 0,.slice none 0 0,.slice none 0 0] 41)):=Ext.alloc (Ext.refl w) _;have k2:Blk (w.alloc (.cells #[.slice none 0 0,.slice none 0 0,.slice none 0 0] 41)) w.heap.size 41 #[.slice none 0 0,.slice none 0 0,.slice none 0 0]:=Blk.new rfl;generalize hW:w.alloc (.cells #[.slice none 0 0,.slice none 0 0,.slice none 0 0] 41)=W at hX k2|-;have hsz:w.heap.size+1<=W.heap.size:=by rw[<-hW];simp
 clear hW;go_cut [1] (fun t wx=> ∃o vB vC,t= .pointer (some ⟨o,0,none⟩)∧Blk wx o 41 #[.slice none 0 0,vB,vC]∧GOwn wx W.heap.size o (.slice none 0 0) vB vC [] ⟨[],List.replicate 32 false,mid 0⟩∧Ext W wx∧W.heap.size<=o)
 case first=>
  refine zn (W.heap.size) [] (.alt 0 (.alt 1 (.take 2 (.alt 3 (.alt 4 .done .none) .none)) (.alt 3 (.alt 1 (.take 2 (.alt 4 .done .none)) .none) .none)) (.alt 1 (.alt 0 (.take 2 (.alt 3 (.alt 4 .done .none) .none)) (.alt 3 (.alt 0 (.take 2 (.alt 4 .done .none)) .none) .none)) (.alt 3 (.alt 0 (.alt 1 (.take 2 (.alt 4 .done .none)) .none) (.alt 1 (.alt 0 (.take 2 (.alt 4 .done .none)) .none) .none)) .none))) Tryz.mixed (by kernel_rfl) ?_;intro hx;refine jTC (fun K hK=> ?_) ?_;go_simp;first|refine hK _ _ jN ?_|refine hK undef _ jN ?_
  clear hK;intro hr;(try have hB:=yq (n:=32) hr (by omega) zB);(try have hB:=yj (n:=32) hr (by omega) zB);replace hx:=hx.trans hr;clear hr;refine jp ?_;refine jTC (fun K hK=> ?_) ?_;go_simp;first|refine hK _ _ jN ?_|refine hK undef _ jN ?_
  clear hK;intro hr;(try have hC:=yq (n:=32) hr (by omega) zC);(try have hC:=yj (n:=32) hr (by omega) zC);replace hx:=hx.trans hr;clear hr;refine jp ?_;first|refine jTN hx ?_|refine jTS ?_
  refine jCN hx (fun K hK=> ?_);go_simp;first|refine hK _ _ jN ?_|refine hK undef _ jN ?_
  clear hK hx;intro hx;refine jp ?_;refine yl hx (fun K hK=> ?_);go_simp;refine hK _ ((by repeat(first|exact Bel.refl _ _ _|exact Bel.alloc1 (by first|assumption|omega|(simp;done)|(simp;omega))|refine Bel.drew ?_|refine Bel.drewL ?_|refine Bel.both ?_ (by first|omega|(simp;done)|(simp;omega))|(refine Bel.setCell ?_ ?_ _;rotate_left;(focus(first|omega|(simp;done)|(simp;omega))))))) ?_;clear hK hx;intro hx;refine zi ?_;rotate_left;refine jCN hx (fun K hK=> ?_);go_simp;first|refine hK _ _ jN ?_|refine hK undef _ jN ?_
  clear hK hx;intro hx;refine jp ?_;refine jTC (fun K hK=> ?_);go_simp;first|refine hK _ _ jN ?_|refine hK undef _ jN ?_
  clear hK;intro hr;(try have hC:=yq (n:=32) hr (by omega) zC);(try have hC:=yj (n:=32) hr (by omega) zC);replace hx:=hx.trans hr;clear hr;refine jp ?_;first|refine jTN hx ?_|refine jTS ?_
  refine yl hx (fun K hK=> ?_);go_simp;refine hK _ ((by repeat(first|exact Bel.refl _ _ _|exact Bel.alloc1 (by first|assumption|omega|(simp;done)|(simp;omega))|refine Bel.drew ?_|refine Bel.drewL ?_|refine Bel.both ?_ (by first|omega|(simp;done)|(simp;omega))|(refine Bel.setCell ?_ ?_ _;rotate_left;(focus(first|omega|(simp;done)|(simp;omega))))))) ?_;clear hK hx;intro hx;refine zi ?_;rotate_left;refine jTC (fun K hK=> ?_) ?_;go_simp;first|refine hK _ _ jN ?_|refine hK undef _ jN ?_
  clear hK;intro hr;(try have hC:=yq (n:=32) hr (by omega) zC);(try have hC:=yj (n:=32) hr (by omega) zC);replace hx:=hx.trans hr;clear hr;refine jp ?_;refine jTC (fun K hK=> ?_) ?_;go_simp;first|refine hK _ _ jN ?_|refine hK undef _ jN ?_
  clear hK;intro hr;(try have hB:=yq (n:=32) hr (by omega) zB);(try have hB:=yj (n:=32) hr (by omega) zB);replace hx:=hx.trans hr;clear hr;refine jp ?_;first|refine jTN hx ?_|refine jTS ?_
  refine jCN hx (fun K hK=> ?_);go_simp;first|refine hK _ _ jN ?_|refine hK undef _ jN ?_
  clear hK hx;intro hx;refine jp ?_;refine yl hx (fun K hK=> ?_);go_simp;refine hK _ ((by repeat(first|exact Bel.refl _ _ _|exact Bel.alloc1 (by first|assumption|omega|(simp;done)|(simp;omega))|refine Bel.drew ?_|refine Bel.drewL ?_|refine Bel.both ?_ (by first|omega|(simp;done)|(simp;omega))|(refine Bel.setCell ?_ ?_ _;rotate_left;(focus(first|omega|(simp;done)|(simp;omega))))))) ?_;clear hK hx;intro hx;refine zi ?_;rotate_left;refine jCN hx (fun K hK=> ?_);go_simp;first|refine hK _ _ jN ?_|refine hK undef _ jN ?_
  clear hK hx;intro hx;refine jp ?_;refine jTC (fun K hK=> ?_);go_simp;first|refine hK _ _ jN ?_|refine hK undef _ jN ?_
  clear hK;intro hr;(try have hB:=yq (n:=32) hr (by omega) zB);(try have hB:=yj (n:=32) hr (by omega) zB);replace hx:=hx.trans hr;clear hr;refine jp ?_;first|refine jTN hx ?_|refine jTS ?_
  refine yl hx (fun K hK=> ?_);go_simp;refine hK _ ((by repeat(first|exact Bel.refl _ _ _|exact Bel.alloc1 (by first|assumption|omega|(simp;done)|(simp;omega))|refine Bel.drew ?_|refine Bel.drewL ?_|refine Bel.both ?_ (by first|omega|(simp;done)|(simp;omega))|(refine Bel.setCell ?_ ?_ _;rotate_left;(focus(first|omega|(simp;done)|(simp;omega))))))) ?_;clear hK hx;intro hx;refine zi ?_;rotate_left;refine jCN hx (fun K hK=> ?_);go_simp;first|refine hK _ _ jN ?_|refine hK undef _ jN ?_
  clear hK hx;intro hx;refine jp ?_;refine jTC (fun K hK=> ?_) ?_;go_simp;first|refine hK _ _ jN ?_|refine hK undef _ jN ?_
  clear hK;intro hr;(try have hB:=yq (n:=32) hr (by omega) zB);(try have hB:=yj (n:=32) hr (by omega) zB);replace hx:=hx.trans hr;clear hr;refine jp ?_;refine jTC (fun K hK=> ?_);go_simp;first|refine hK _ _ jN ?_|refine hK undef _ jN ?_
  clear hK;intro hr;(try have hC:=yq (n:=32) hr (by omega) zC);(try have hC:=yj (n:=32) hr (by omega) zC);replace hx:=hx.trans hr;clear hr;refine jp ?_;first|refine jTN hx ?_|refine jTS ?_
  refine yl hx (fun K hK=> ?_);go_simp;refine hK _ ((by repeat(first|exact Bel.refl _ _ _|exact Bel.alloc1 (by first|assumption|omega|(simp;done)|(simp;omega))|refine Bel.drew ?_|refine Bel.drewL ?_|refine Bel.both ?_ (by first|omega|(simp;done)|(simp;omega))|(refine Bel.setCell ?_ ?_ _;rotate_left;(focus(first|omega|(simp;done)|(simp;omega))))))) ?_;clear hK hx;intro hx;refine zi ?_;rotate_left;refine jTC (fun K hK=> ?_);go_simp;first|refine hK _ _ jN ?_|refine hK undef _ jN ?_
  clear hK;intro hr;(try have hC:=yq (n:=32) hr (by omega) zC);(try have hC:=yj (n:=32) hr (by omega) zC);replace hx:=hx.trans hr;clear hr;refine jp ?_;refine jTC (fun K hK=> ?_);go_simp;first|refine hK _ _ jN ?_|refine hK undef _ jN ?_
  clear hK;intro hr;(try have hB:=yq (n:=32) hr (by omega) zB);(try have hB:=yj (n:=32) hr (by omega) zB);replace hx:=hx.trans hr;clear hr;refine jp ?_;first|refine jTN hx ?_|refine jTS ?_
  refine yl hx (fun K hK=> ?_);go_simp;refine hK _ ((by repeat(first|exact Bel.refl _ _ _|exact Bel.alloc1 (by first|assumption|omega|(simp;done)|(simp;omega))|refine Bel.drew ?_|refine Bel.drewL ?_|refine Bel.both ?_ (by first|omega|(simp;done)|(simp;omega))|(refine Bel.setCell ?_ ?_ _;rotate_left;(focus(first|omega|(simp;done)|(simp;omega))))))) ?_;clear hK hx;intro hx;refine zi ?_;rotate_left
  all_goals
   go_wp2;go_meet;have hB':=zsb hB HB.out;have hC':=zsc hC HC.out;clear hB hC;refine⟨_,_,_,rfl,?_,zgj (us:=List.replicate 32 false) (rs:=mid 0) hB' hC' jB jB (by(first|omega|(simp;done)|(simp;omega))) (by(first|omega|(simp;done)|(simp;omega))) (by(first|omega|(simp;done)|(simp;omega))) (by(first|omega|(simp;done)|(simp;omega))),zV hx,by(first|omega|(simp;done)|(simp;omega))⟩
   first
    |((repeat(first|assumption|(with_reducible refine Blk.new ?_;(focus(simp;done)))|(with_reducible exact Blk.new rfl)|(with_reducible refine Blk.drew ?_)|(with_reducible refine Blk.alloc ?_ _)|refine Blk.ext ?_ (by assumption)));done)
    |(simp only[yr];(repeat(first|assumption|(with_reducible refine Blk.new ?_;(focus(simp;done)))|(with_reducible exact Blk.new rfl)|(with_reducible refine Blk.drew ?_)|(with_reducible refine Blk.alloc ?_ _)|refine Blk.ext ?_ (by assumption)));done)
 case rest=>
  obtain⟨o,vB,vC,rfl,kO,hG,hEW,hoW⟩:=hcut;obtain⟨B1,b1',rfl⟩:=own_slice hG.used;obtain⟨C1,c1',rfl⟩:=own_slice hG.roots;simp only[List.length_replicate,kL (Nat.zero_le 32)]at kO hG;have lO:=kO.lt;have cO:=kO.cell;go_wp2_with fail;go_loopw [9] (fun i wr=> ∃(k:Nat),k<=32∧i= .int .i64 k∧Blk wr o 41 #[.slice none 0 0,.slice B1 32 b1',.slice C1 32 c1']∧GOwn wr W.heap.size o (.slice none 0 0) (.slice B1 32 b1') (.slice C1 32 c1') [] ⟨[],List.replicate 32 false,mid k⟩∧Ext W wr) (fun i _=>32-(intOf i).toNat);case atStart=>exact⟨0,by omega,rfl,kO,hG,hEW⟩
  case round=>
   clear kO hG hEW lO cO;obtain⟨k,hk,rfl,kO,hG,hEW⟩:=hrel;have cO:=kO.cell;have fO:=kO.froz;have lO:=kO.lt;by_cases hlt:k<32
   ·have hdec:decide ((k:Int)<32)=true:=by simp;omega
    have hdec':decide (k<32)=true:=by simp;omega
    have hkb:(k:Int)<32:=by omega
    have hrt:=hG.roots;simp only[kL hk]at hrt;obtain⟨bC,cC',e⟩:=jh hrt (by omega);injection e with e1 e2 e3;subst e1;subst e3;obtain⟨cCc,fC⟩:=zz hrt;have hCi:=cCc k (.int .i64 ((mid k).getD k 0)) (xq (by rw[List.getElem?_eq_getElem (by rw[kL hk];exact hlt),List.getD_eq_getElem?_getD,List.getElem?_eq_getElem (by rw[kL hk];exact hlt)];rfl));have hbo:o≠bC:=fun e=>hG.off .C (by simp[kv,Value.ownBlock,e])
    have hbW:=(hG.lt .C bC (by simp[kv,Value.ownBlock])).1;go_wp2;go_roundw;case rel=>exact⟨k+1,by omega,by go_num,kO.far hbo _,by rw[<-zp2 hlt];exact hG.setC rfl k (-1),Ext.setCell hEW (by exact hbW) _⟩
    case measure=>simp[intOf];omega
   ·have hdec:decide ((k:Int)<32)=false:=by simp;omega
    have hdec':decide (k<32)=false:=by simp;omega
    have hkn:k=32:=by omega
    subst hkn;have k2':=k2.ext hEW;have c2:=k2'.cell;have f2:=k2'.froz;have l2:=k2'.lt;have hGe:(⟨[],List.replicate 32 false,mid 32⟩:Gr)=newG:=by simp[newG,mid]
    rw[hGe]at hG;go_wp2;have kF:=((k2'.set_ 0 (.slice none 0 0)).set_ 1 (.slice B1 32 b1')).set_ 2 (.slice C1 32 c1');have cF:=kF.cell;have hfar: ∀q,kv (.slice none 0 0) (.slice B1 32 b1') (.slice C1 32 c1') [] q≠some w.heap.size:=fun q hq=>by have:=(hG.lt q _ hq).1;omega
    have hGF:=((((hG.far (a:=⟨w.heap.size,0,none⟩) hfar (.slice none 0 0)).far (a:=⟨w.heap.size,1,none⟩) hfar (.slice B1 32 b1')).far (a:=⟨w.heap.size,2,none⟩) hfar (.slice C1 32 c1')).offb (o':=w.heap.size) (by omega)).base_ (base':=w.heap.size) (by omega);exact bodyPost_ret (v:= .agg #[.slice none 0 0,.slice B1 32 b1',.slice C1 32 c1']) (by simp[results,Tryz.results16,go_sem,cF]) rfl ⟨_,_,_,_,rfl,hGF,Ext.setCell (Ext.setCell (Ext.setCell (hX.trans hEW) (by show w.heap.size<=w.heap.size;omega) _) (by show w.heap.size<=w.heap.size;omega) _) (by show w.heap.size<=w.heap.size;omega) _⟩
end Go.Proofs.YtopcdfbplknmlaaGreat.Mo
namespace Go.Proofs.YtopcdfbplknmlaaGreat
open Go.RowKit Go.Draw
theorem zn8(d:Nat)(w:World)(hd:Dk w d):
 Calls Tryz.prog 18 #[.pointer (some ⟨d,0,none⟩)] w fun r w'=> ∃b,r= .returned (.bool b)∧Ext w w':=by
 obtain⟨A,n,c,k,zs,h1,h2,h3,h4,_⟩:=hd;have hc:=h1.cell;go_enter Tryz.func18,Tryz.ntmps18;go_wp2;refine jRE [(true,0),(true,1),(true,2),(true,3),(true,4),(true,5),(true,6),(true,7),(true,8),(true,9),(true,10)] Tryz.mixed fun hx=> ?_
 repeat(first
  |refine jLE hx ?_
  |refine jLS ?_
  |(refine yo hx (fun K hK=> ?_);go_simp;(first|refine hK _ _ jX ?_|refine hK undef _ jX ?_);clear hK hx;intro hx;try refine jq ?_))
 refine zH ?_;go_wp2;go_ret;exact⟨_,rfl,by exact jX⟩
structure HgI(S:List Nat)(w:World)(d b8 b10 bz N B:Nat)(P:Hpl)(M:Hmm)(A3:Option Addr)(a3:Nat)(B3:Option Addr)(c3:Nat)(C3:Option Addr)(d3:Nat)(g:Mo.Gr)(wr:World):Prop where
 k8:Blk wr b8 38 (ze P M)
 k10:Blk wr b10 41 #[.slice A3 g.ns.length a3,.slice B3 g.us.length c3,.slice C3 g.rs.length d3]
 ho:HO wr 0 P M
 ap:Ap P M
 hv: ∃I,Hv N P B I
 al:P.dead=false
 gr:Mo.GRx (b10::b8::d::bz::(bz+1)::S) wr (.agg #[.slice A3 g.ns.length a3,.slice B3 g.us.length c3,.slice C3 g.rs.length d3]) g
 vl:Mo.Vld g
 gn:g.ns.length*257<=N
 dk:Dk wr d
 but:But [d] w wr
section
variable{S:List Nat} {w wr w':World} {d b8 b10 bz N B:Nat} {P:Hpl} {M:Hmm} {A3 B3 C3:Option Addr} {a3 c3 d3:Nat} {g:Mo.Gr}
theorem HgI.ext(h:HgI S w d b8 b10 bz N B P M A3 a3 B3 c3 C3 d3 g wr)(hE:Ext wr w'):HgI S w d b8 b10 bz N B P M A3 a3 B3 c3 C3 d3 g w':=
 ⟨h.k8.ext hE,h.k10.ext hE,h.ho.ext hE,h.ap,h.hv,h.al,h.gr.ext hE,h.vl,h.gn,h.dk.ext hE,h.but.trans (hE.but _)⟩
theorem HgI.next(h:HgI S w d b8 b10 bz N B P M A3 a3 B3 c3 C3 d3 g wr)(hB:But [d] wr w')(hD:Dk w' d):HgI S w d b8 b10 bz N B P M A3 a3 B3 c3 C3 d3 g w':=by
 have hdk:=h.dk;obtain⟨_,_,_,_,_,h1,_⟩:=hdk;exact⟨qB hB h.dk h.k8 (by decide),qB hB h.dk h.k10 (by decide),h.ho.bx2 h1 (by decide) (by decide) (by decide) (by decide) (by decide) (by decide) (by decide) hB,h.ap,h.hv,h.al,h.gr.but (But.more hB (by simp)),h.vl,h.gn,hD,h.but.trans hB⟩
theorem HgI.heap{P':Hpl}{M':Hmm}{N':Nat}(h:HgI S w d b8 b10 bz N B P M A3 a3 B3 c3 C3 d3 g wr)(hb:d<w.heap.size∧w.heap.size<=b8∧b8<b10)(hO:HO wr 0 P' M')(hap:Ap P' M')(hv: ∃I,Hv N' P' B I)(hN:N<=N')(hal:P'.dead=false):HgI S w d b8 b10 bz N' B P' M' A3 a3 B3 c3 C3 d3 g (wr.setRow b8 (ze P' M')):=by
 have e:=zD wr b8 (ze P' M');exact⟨setRow_heap wr b8 _ (ze P' M') 38 (0,0) h.k8,h.k10.but e (by simp;omega),hO.bx h.k8 e,hap,hv,hal,h.gr.but (But.more e (by simp)),h.vl,Nat.le_trans h.gn hN,h.dk.but e (fun x hx=>by have:=List.mem_singleton.1 hx;omega),But.freshS h.but e (fun x hx=>by have:=List.mem_singleton.1 hx;omega)⟩
theorem HgI.wide{N':Nat}(h:HgI S w d b8 b10 bz N B P M A3 a3 B3 c3 C3 d3 g wr)(hN:N<=N'):HgI S w d b8 b10 bz N' B P M A3 a3 B3 c3 C3 d3 g wr:=
 ⟨h.k8,h.k10,h.ho,h.ap,h.hv.imp fun _ hv=>hv.wide hN,h.al,h.gr,h.vl,Nat.le_trans h.gn hN,h.dk,h.but⟩
theorem HgI.graph{A3' B3' C3':Option Addr}{a3' c3' d3':Nat}{g':Mo.Gr}(h:HgI S w d b8 b10 bz N B P M A3 a3 B3 c3 C3 d3 g wr)(hb:d<w.heap.size∧w.heap.size<=b8∧b8<b10)(hg:Mo.GRx (b10::b8::d::bz::(bz+1)::S) wr (.agg #[.slice A3' g'.ns.length a3',.slice B3' g'.us.length c3',.slice C3' g'.rs.length d3']) g')(hvl:Mo.Vld g')(hgn:g'.ns.length*257<=N):HgI S w d b8 b10 bz N B P M A3' a3' B3' c3' C3' d3' g' (wr.setCells b10 0 [.slice A3' g'.ns.length a3',.slice B3' g'.us.length c3',.slice C3' g'.rs.length d3']):=by
 have e:But [b10] wr (wr.setCells b10 0 [.slice A3' g'.ns.length a3',.slice B3' g'.us.length c3',.slice C3' g'.rs.length d3']):=But.setCell (But.setCell (But.setCell (But.refl _ _) (by simp) _) (by simp) _) (by simp) _;exact⟨h.k8.but e (by simp;omega),((h.k10.set_ 0 _).set_ 1 _).set_ 2 _,h.ho.bx2 h.k10 (by decide) (by decide) (by decide) (by decide) (by decide) (by decide) (by decide) e,h.ap,h.hv,h.al,hg.but (But.more e (by simp)),hvl,hgn,h.dk.but e (fun x hx=>by have:=List.mem_singleton.1 hx;omega),But.freshS h.but e (fun x hx=>by have:=List.mem_singleton.1 hx;omega)⟩
end
theorem zp3{w wr w':World}{d b8 b10:Nat}(h:But [b10,b8,d] w wr)(k:Ext wr w'):But [b10,b8,d] w w':=h.trans (k.but _)
theorem zrk{P:Program}{c:Code}{Q:Exit->Act->World->Prop}{a:Act}{w:World}{xs:Array Value}{e v:Int}(h: ∀W,Blk W w.heap.size 38 xs->Blk W (w.heap.size+1) 69 #[.int .i64 e,.int .u64 v] ->Ext w W->c.wp P Q a W):
 c.wp P Q a ((((w.alloc (.cells y0 38)).alloc (.cells #[.int .i64 0,.int .u64 0] 69)).setRow w.heap.size xs).setCells (w.heap.size+1) 0 [.int .i64 e,.int .u64 v]):=by
 have k1:Blk ((w.alloc (.cells y0 38)).alloc (.cells #[.int .i64 0,.int .u64 0] 69)) w.heap.size 38 y0:=Blk.alloc (Blk.new rfl) _;have k2:Blk ((w.alloc (.cells y0 38)).alloc (.cells #[.int .i64 0,.int .u64 0] 69)) (w.heap.size+1) 69 #[.int .i64 0,.int .u64 0]:=Blk.new (by simp);obtain⟨q1,q2,q3⟩:=vN (xs:=xs) k1 k2 (by omega) e v;exact h _ q1 q2 (But.ext (y7 (Ext.alloc (Ext.alloc (Ext.refl w) _) _) (Nat.le_refl _) xs) q3 (fun q hq=>by have:=List.mem_singleton.1 hq;omega))
theorem zsd{xs:Array Value}(h:xs.size=22)(h1:xs.all (·.oneCell')=true)(w:World)(e v:Int):
 (yw ⟨w.heap.size,0,none⟩ xs.toList).run Tryz.prog ((w.alloc (.cells y0 38)).alloc (.cells #[.int .i64 0,.int .u64 0] 69))= .ok () (((w.alloc (.cells y0 38)).alloc (.cells #[.int .i64 0,.int .u64 0] 69)).setRow w.heap.size xs)∧
 (yw ⟨w.heap.size+1,0,none⟩ [.int .i64 e,.int .u64 v]).run Tryz.prog (((w.alloc (.cells y0 38)).alloc (.cells #[.int .i64 0,.int .u64 0] 69)).setRow w.heap.size xs)= .ok () ((((w.alloc (.cells y0 38)).alloc (.cells #[.int .i64 0,.int .u64 0] 69)).setRow w.heap.size xs).setCells (w.heap.size+1) 0 [.int .i64 e,.int .u64 v]):=
 yh (Blk.alloc (Blk.new rfl) _) rfl (Blk.new (by simp)) rfl h h1 (by omega) e v
theorem kU(w:World)(b:Nat)(x y z:Value):But [b] w (w.setCells b 0 [x,y,z]):=But.setCell (But.setCell (But.setCell (But.refl _ _) (by simp) _) (by simp) _) (by simp) _
theorem zrl(w:World)(zs:Array Value)(c a b e:Int)(hz:zs.size=4):(yw ⟨w.heap.size,0,none⟩ [.int .i64 c,.int .i64 a,.int .i64 b,.int .i64 e]).run Tryz.prog (w.alloc (.cells zs 65))= .ok () (w.alloc (.cells #[.int .i64 c,.int .i64 a,.int .i64 b,.int .i64 e] 65)):=
 run_storeCells_new (P:=Tryz.prog) w 65 zs #[.int .i64 c,.int .i64 a,.int .i64 b,.int .i64 e] (by kernel_rfl) (by rw[hz];rfl) (by simp[Value.oneCell'])
theorem zrm(w:World)(zs:Array Value)(A B C:Option Addr)(n a m b k c:Nat)(hz:zs.size=3):(yw ⟨w.heap.size,0,none⟩ [.slice A n a,.slice B m b,.slice C k c]).run Tryz.prog (w.alloc (.cells zs 41))= .ok () (w.alloc (.cells #[.slice A n a,.slice B m b,.slice C k c] 41)):=
 run_storeCells_new (P:=Tryz.prog) w 41 zs #[.slice A n a,.slice B m b,.slice C k c] (by kernel_rfl) (by rw[hz];rfl) (by simp[Value.oneCell'])
theorem zec{w:World}{b:Nat}{xs:Array Value}(k:Blk w b 41 xs)(h:xs.size=3)(A B C:Option Addr)(n a m c j e:Nat):(yw ⟨b,0,none⟩ [.slice A n a,.slice B m c,.slice C j e]).run Tryz.prog w= .ok () (w.setCells b 0 [.slice A n a,.slice B m c,.slice C j e]):=
 yE k 0 _ (by rw[h];simp) (by simp[Value.oneCell'])
def zqn(S:List Nat)(w:World)(d:Nat)(C:Cfg)(r:Ending)(w':World):Prop:= ∃(P:Hpl) (M:Hmm) (v:Value) (g:Mo.Gr) (N B:Nat) (I:List In),r= .returned (.tuple #[.agg (ze P M),v])∧HO w' 0 P M∧Ap P M∧N<=16384∧Hv N P B I∧P.dead=false∧Mo.GRx S w' v g∧Mo.Vld g∧Dk w' d∧But [d] w w'
attribute [local go_sem↓] yg yx in
theorem zrn{Q:Ending->World->Prop}{a:Act}{W:World}{g4 g5:Nat}{xs:Array Value}{x y z:Value}(hd:a.defers= [])(h4:a.tmps[4]?.getD undef= .pointer (some ⟨g4,0,none⟩))(h5:a.tmps[5]?.getD undef= .pointer (some ⟨g5,0,none⟩))
 (k4:Blk W g4 38 xs) (h:xs.size=22) (k5:Blk W g5 41 #[x,y,z]) (hQ:Q (.returned (.tuple #[.agg xs,.agg #[x,y,z]])) W):bodyPost Tryz.prog Tryz.f9 Q Exit.ret a W:=by
 have hl:=zj k4 h;have c5:=k5.cell;exact bodyPost_ret (v:= .tuple #[.agg xs,.agg #[x,y,z]]) (by simp[results,Tryz.results9,h4,h5,go_sem,hl,c5]) hd hQ
theorem zro{S:List Nat}{w W:World}{d b8 b10 N B bz:Nat}{P:Hpl}{M:Hmm}{A3 B3 C3:Option Addr}{a3 c3 d3:Nat}{g:Mo.Gr}{C:Cfg}{a:Act}{ys:Array Value}{z0 z1 z2:Value}(h:HgI S w d b8 b10 bz N B P M A3 a3 B3 c3 C3 d3 g W)(hN:N<=16384)(k4:Blk W bz 38 ys)(k5:Blk W (bz+1) 41 #[z0,z1,z2])(hb:d<w.heap.size∧w.heap.size<=bz)
 (hd:a.defers= []) (h4:a.tmps[4]?.getD undef= .pointer (some ⟨bz,0,none⟩)) (h5:a.tmps[5]?.getD undef= .pointer (some ⟨bz+1,0,none⟩)):bodyPost Tryz.prog Tryz.f9 (zqn S w d C) Exit.ret a ((W.setRow bz (ze P M)).setCells (bz+1) 0 [.slice A3 g.ns.length a3,.slice B3 g.us.length c3,.slice C3 g.rs.length d3]):=by
 have e4:=zD W bz (ze P M);have e5:=kU (W.setRow bz (ze P M)) (bz+1) (.slice A3 g.ns.length a3) (.slice B3 g.us.length c3) (.slice C3 g.rs.length d3);have k4a:Blk (W.setRow bz (ze P M)) bz 38 (ze P M):=setRow_heap W bz _ (ze P M) 38 (0,0) k4;have k5a:=k5.but e4 (by simp);have k5b:=((k5a.set_ 0 (.slice A3 g.ns.length a3)).set_ 1 (.slice B3 g.us.length c3)).set_ 2 (.slice C3 g.rs.length d3);obtain⟨I,hv⟩:=h.hv;refine zrn hd h4 h5 (k4a.but e5 (by simp)) (za _ _) k5b ⟨P,M,_,g,N,B,I,rfl,(h.ho.bx k4 e4).bx2 k5a (by decide) (by decide) (by decide) (by decide) (by decide) (by decide) (by decide) e5,h.ap,hN,hv,h.al,((h.gr.but (But.more e4 (by simp))).but (But.more e5 (by simp))).less (fun x hx=>by simp[hx]),h.vl,(h.dk.but e4 (fun x hx=>by have:=List.mem_singleton.1 hx;omega)).but e5 (fun x hx=>by have:=List.mem_singleton.1 hx;omega),But.freshS (But.freshS h.but e4 (fun x hx=>by have:=List.mem_singleton.1 hx;omega)) e5 (fun x hx=>by have:=List.mem_singleton.1 hx;omega)⟩
attribute [local go_sem↓] yg xd yx in
attribute [local go_sem] xe in
theorem zh7{S:List Nat}(d base cc:Nat)(Ac:Option Addr)(C:Cfg)(w:World)(hS: ∀x∈S,x<w.heap.size)(hD:Dk w d)(hA:w.ownsRow base 79 4 (.slice Ac C.l.length cc) C.l.length (y2 C.l))(hbase:d<base)(hC:C.Ok):
 Calls Tryz.prog 9 #[.pointer (some ⟨d,0,none⟩),.agg #[.string C.s,.slice Ac C.l.length cc,.int .i64 C.f]] w (zqn S w d C):=by
 go_enter Tryz.func9,Tryz.ntmps9;go_upto_region 1 with fail;refine zkc (fun W k3 k4 k5 hE0=> ?_);obtain⟨b3,hb3⟩: ∃b,w.heap.size=b:=⟨_,rfl⟩;rw[hb3]at k3 k4 k5|-;have Hb3:=Lib.hid hb3;clear hb3;have hDW:=hD.ext hE0;go_wp2_with fail;go_at_call 14;refine(zku d W hDW).mono ?_;rintro e w1 ⟨sh,n,rfl,hsh,hn,hD1,hB1⟩;have hdw:=hD.lt;have hbd:b3∉ [d]:=by have:=Hb3.out;simp;omega
 have hbd1:b3+1∉ [d]:=by have:=Hb3.out;simp;omega
 have hbd2:b3+2∉ [d]:=by have:=Hb3.out;simp;omega
 have hA1:=zo (zm hA hE0) hB1 (fun b hb hm=>by have:=(World.ownsRow.lt hA b hb).1;have:=List.mem_singleton.1 hm;omega);have k3a:=k3.but hB1 hbd;have k4a:=k4.but hB1 hbd1;have k5a:=k5.but hB1 hbd2;have hBt:But [d] w w1:=(hE0.but _).trans hB1;clear k3 k4 k5 hB1 hDW hbd hbd1 hbd2 hE0;have c3:=k3a.cell;have l3:=k3a.lt;have hnw:=znl Ac cc sh n C w1 (Rd.of_own hA1) hC (by omega) (by omega);go_wp2_with fail;go_at_call 15;refine hnw.mono ?_;rintro e w2 ⟨M,rfl,hO2,hap2,hE2⟩;clear hnw c3 l3 hA1 hA;have hst:=fun zs hz=>zT w2 zs (ze (qc C sh n) M) hz (za _ M) (zg _ M)
 have hsz:=za (qc C sh n) M;go_upto_region 3 with fail;clear hst hsz;refine yN (fun W3 k8 hE3=> ?_);obtain⟨b8,hb8⟩: ∃b,w2.heap.size=b:=⟨_,rfl⟩;rw[hb8]at k8|-;have Hb8:=Lib.hid hb8;have hlt8:b3+2<b8:=by have:=(k5a.ext hE2).lt;omega
 clear hb8;have hO3:=hO2.ext hE3;have hE23:=hE2.trans hE3;have hD3:=hD1.ext hE23;have hBt3:=hBt.trans (hE23.but _);clear hO2 hE3 hD1 hBt;go_wp2_with fail;go_at_call 16;refine(Mo.new23_any W3).mono ?_;rintro e w4 ⟨vA,vB,vC,ps,rfl,hG,hE4⟩;obtain⟨A3,a3,rfl⟩:=Mo.own_slice hG.nodes;obtain⟨B3,b4,rfl⟩:=Mo.own_slice hG.used;obtain⟨C3,c4,rfl⟩:=Mo.own_slice hG.roots;have hst:=fun zs hz=>zrm w4 zs A3 B3 C3 Mo.newG.ns.length a3 Mo.newG.us.length b4 Mo.newG.rs.length c4 hz
 go_upto_region 4 with fail;clear hst;refine yN (fun W5 k10 hE5=> ?_);obtain⟨b10,hb10⟩: ∃b,w4.heap.size=b:=⟨_,rfl⟩;have hsz3:=hE4.size_le;have hlt83:=k8.lt;have hlt10:b8<b10:=by omega
 have hgr:=hG.rdx (S:=b8::d::(b3+1)::(b3+1+1)::S) (fun x hx=>by
  have:=hD3.lt;simp only[List.mem_cons]at hx;rcases hx with rfl|rfl|rfl|rfl|hx
  ·omega
  ·omega
  ·omega
  ·omega
  ·have:=hS x hx
   have:=Hb3.out;omega)
 have hgr2:=(hgr.cons (o:=b10) (by omega)).ext hE5;rw[hb10]at k10|-;have Hb10:=Lib.hid hb10;have hE45:=hE4.trans hE5;have h0:HgI S w d b8 b10 (b3+1) 0 (2^sh) (qc C sh n) M A3 a3 B3 b4 C3 c4 Mo.newG W5:=⟨k8.ext hE45,k10,hO3.ext hE45,hap2,⟨_,zpu hC (by omega) (by omega) rfl⟩,rfl,hgr2,Mo.newG_vld,by simp[Mo.newG],hD3.ext hE45,hBt3.trans (hE45.but _)⟩;have hE345:Ext W3 W5:=hE45;clear hgr hgr2 hG hE4 hE5 hE45 hb10 k10 k8 hO3 hap2 hD3 hBt3;have hbs:d<w.heap.size∧w.heap.size<=b8∧b8<b10:=⟨hdw,by have:=Hb3.out;omega,hlt10⟩;have k4w:=k4a.ext (hE23.trans hE345);have k5w:=k5a.ext (hE23.trans hE345);clear k3a k4a k5a hE23 hE345 hE2 hsz3 hlt83 hlt10;go_wp2_with fail;go_at_call 17;refine(zG d 50 W5 h0.dk (by omega) (by omega)).mono ?_;rintro e w6 ⟨x,rfl,hx,hDk6,hB6⟩;obtain⟨k0,hk0⟩: ∃k,6+x=k:=⟨_,rfl⟩;have hkI:(6:Int)+x=k0:=by omega
 have hbz:b3+1+1<b8:=by omega
 have hk55:k0<=55:=by omega
 have hI:=h0.next hB6 hDk6;have k4z:=k4w.but hB6 (by have:=Hb3.out;simp;omega);have k5z:=k5w.but hB6 (by have:=Hb3.out;simp;omega);clear h0 hB6 hDk6 k4w k5w hk0 hx;go_wp2_with fail;go_loopw [11] (fun i wr=> ∃(k j:Nat) (P:Hpl) (M:Hmm) (A3:Option Addr) (a3:Nat) (B3:Option Addr) (c3:Nat) (C3:Option Addr) (d3:Nat) (g:Mo.Gr),j+k<=55∧i= .int .i64 k∧HgI S w d b8 b10 (b3+1) (257*j) (2^sh) P M A3 a3 B3 c3 C3 d3 g wr∧But [b10,b8,d] w6 wr) (fun i _=>(intOf i).toNat);case atStart=>exact⟨k0,0,qc C sh n,M,A3,a3,B3,b4,C3,c4,Mo.newG,by omega,rfl,hI,But.refl _ _⟩
 case round=>
  clear hI;obtain⟨k,j,P,M,A3,a3,B3,c3,C3,d3,g,hjk,rfl,hI,hB⟩:=hrel;go_upto_region 5 with fail;go_cut [36] (fun s wx=> ∃zb:Bool,s= .bool zb∧(zb=true->0<k)∧Ext wr wx)
  case first=>
   by_cases hk:0<k
   ·have q1:decide ((0:Int)<(k:Int))=true:=by simp;omega
    have q1':decide (0<k)=true:=by simp;omega
    go_wp2_with fail;go_at_call 18;refine(zn8 d wr hI.dk).mono ?_;rintro e w7 ⟨zb,rfl,hE7⟩;cases zb
    all_goals
     go_wp2_with fail;go_meet;exact⟨_,rfl,fun _=>hk,hE7⟩
   ·have q1:decide ((0:Int)<(k:Int))=false:=by simp;omega
    have q1':decide (0<k)=false:=by simp;omega
    go_wp2_with fail;go_meet;exact⟨false,rfl,fun h=>by simp at h,Ext.refl _⟩
  case rest=>
   obtain⟨zb,rfl,hk,hEx⟩:=hcut;have hI':=hI.ext hEx;have hB':=zp3 hB hEx;clear hI hB hEx;cases zb with
   |false=>
    obtain⟨b4,hb4⟩: ∃b,b3+1=b:=⟨_,rfl⟩;rw[hb4]at k4z k5z hI'|-;have hdr:Ext wc wc.drew:=by exact jX
    have hb3:=Hb3.out;have k4:=k4z.but hB' (by have:=hbs.2.2;simp;omega);have k5:=k5z.but hB' (by have:=hbs.2.2;simp;omega);have k8:=hI'.k8;have k10:=hI'.k10;have c10:=k10.cell;have l10:=k10.lt;have hn10:b10∉ [b4,b4+1]:=by have:=hbs.2.2;simp;omega
    have l8:=k8.lt;have hsz:=za P M;have hne:b4+1≠b4:=by omega
    have hld:=jy (N:=wc.heap.size) (S:= [b4,b4+1]) k8.drew (za P M) l8 (by simp;omega);have hst:=zO k4.drew rfl (za P M) (zg P M);have hst2:=zec (k5.drew.but (zD wc.drew b4 (ze P M)) (by simp)) rfl A3 B3 C3 g.ns.length a3 g.us.length c3 g.rs.length d3;clear k4z k5z;go_upto_region 12 with fail;refine zn (wc.heap.size) [b4,b4+1] (.take 0 (.take 1 (.alt 2 (.alt 3 .done .none) .none))) Tryz.mixed (by kernel_rfl) ?_;intro hx;iterate 2 (first|refine jTN hx ?_ (hv:=by intro _ hc;have hcl:=hld _ hc;have hcg:=fun i=>(hc b10 i l10 hn10).trans (c10 i);go_simp;(try go_ints);exact rfl)|refine jTS ?_)
    refine yl hx (fun K hK=> ?_)
    skip
    go_simp;refine hK _ ((xy (zD _ _ _) (by simp))) ?_;clear hK hx;intro hx;refine yl hx (fun K hK=> ?_)
    skip
    go_simp;refine hK _ ((xy (kU _ _ _ _ _) (by simp))) ?_;clear hK hx;intro hx;refine zi ?_;go_wp2_with fail;exact zro (hI'.ext hdr) (by omega) k4.drew k5.drew ⟨hdw,by omega⟩ rfl rfl rfl
   |true=>
    replace hk:=hk rfl;have c10:=hI'.k10.cell;have l10:=hI'.k10.lt;go_wp2_with fail;go_at_call 19;refine(Mo.op20_any d _ g wc hI'.dk hI'.gr.rd (by have:=hI'.vl.lu;omega)).mono ?_;rintro e w7 ⟨c,a,b,e1,rfl,h1,hDk7,hB7⟩;have hI7:=hI'.next hB7 hDk7;have hB7':=hB'.trans (But.more hB7 (S':= [b10,b8,d]) (by simp));clear hI' hB' hB7 hDk7 c10 l10;have hst:=fun zs hz=>zrl w7 zs c a b e1 hz
    go_upto_region 8 with fail;clear hst;refine yN (fun W8 k12 hE8=> ?_);have hI8:=hI7.ext hE8;have hB8:=zp3 hB7' hE8;obtain⟨b12,hb12⟩: ∃b,w7.heap.size=b:=⟨_,rfl⟩;rw[hb12]at k12|-;have H1:=Lib.hid h1;clear hI7 hB7' hE8 hb12 h1;have c12:=k12.cell;have l12:=k12.lt;have hlc:=zj hI8.k8 (za P M);obtain⟨I0,hv0⟩:=hI8.hv;have hdo:=zni (257*j) (2^sh) c a b e1 P M I0 W8 hI8.ho hI8.ap hv0 (by omega) hI8.al H1.out;go_wp2_with fail;go_at_call 20;refine hdo.mono ?_;rintro e w9 ⟨P',M',er,v,rfl,hO9,hap9,hv9,hC9,hde9,hE9⟩;clear hdo hlc c12 l12 hv0;obtain⟨hst,hst2⟩:=zsd (za P' M') (zg P' M') w9 er v;simp only[y0]at hst hst2;have hsz:=za P' M';go_upto_region 9 with fail;clear hst hst2 hsz;refine zrk (fun W10 k13 k14 hE10=> ?_);have hE910:=hE9.trans hE10;have hI10:=hI8.ext hE910;have hB10:=zp3 hB8 hE910;have hO10:=hO9.ext hE10;have k12b:=k12.ext hE910;obtain⟨b13,hb13⟩: ∃b,w9.heap.size=b:=⟨_,rfl⟩;rw[hb13]at k13 k14|-;have Hde9:=Lib.hid hde9;have Hap9:=Lib.hid hap9;have Hv9:=Lib.hid hv9;clear hI8 hB8 hO9 hE9 hE10 hE910 hb13 hde9 hap9 hv9 k12 hC9;have hszB:=hB10.size;have c14:=k14.cell;have l14:=k14.lt;by_cases her:er=18
    ·have q2:(er==18)=true:=by rw[beq_iff_eq];exact her
     clear her;go_wp2_with fail;go_roundw;case rel=>exact⟨k-1,j+1,P,M,A3,a3,B3,c3,C3,d3,g,by omega,by go_num,hI10.wide (by omega),hB10⟩
     case measure=>simp[intOf];omega
    ·have q2:(er==18)=false:=by rw[beq_eq_false_iff_ne];exact her
     have hal:=Hde9.out her;clear her;have hlc:=zj k13 (za P' M');have hst:=zO hI10.k8 (za P M) (za P' M') (zg P' M');have hsz:=za P' M';go_upto_region 11 with fail;clear hlc hst hsz c14 l14 q2 k13 k14;have hI11:=hI10.heap (N':=257*j+257) hbs hO10 Hap9.out Hv9.out (by omega) hal;have e8:=zD W10 b8 (ze P' M');have hB11:=hB10.trans (But.more e8 (S':= [b10,b8,d]) (by simp));have k12c:=k12b.but e8 (by simp;intro e;subst e;exact absurd rfl (hI10.k8.ne_ k12b (by decide)));have hgn:=hI10.gn;clear hI10 hB10 hO10 e8 k12b hal;generalize W10.setRow b8 (ze P' M')=W11 at*;have c10:=hI11.k10.cell;have l10:=hI11.k10.lt;have c12:=k12c.cell;have l12:=k12c.lt
     have hdo:=Mo.do27_any _ g c a b e1 W11 (S:=b10::b8::d::(b3+1)::(b3+1+1)::S) (fun x hx=>by
      have:=hI11.k10.lt;have:=hI11.k8.lt;have:=hI11.dk.lt;have:=hbz;simp only[List.mem_cons]at hx;rcases hx with rfl|rfl|rfl|rfl|rfl|hx
      ·omega
      ·omega
      ·omega
      ·omega
      ·omega
      ·have:=hS x hx
       omega) hI11.gr hI11.vl (by have:=hI11.gn;omega)
     have hkp:=Mo.doT_keeps hI11.vl c a b e1
     have hn':(Mo.doT g c a b e1).1.ns.length<=g.ns.length+1:=by
      rw[hkp.n];split<;>omega
     go_wp2_with fail;go_at_call 21;refine hdo.mono ?_;rintro e w12 ⟨v',rfl,hg12,hE12⟩;obtain⟨g',hg'⟩: ∃g',(Mo.doT g c a b e1).1=g':=⟨_,rfl⟩;have hvl:=hkp.v;rw[hg']at hg12 hn' hvl;have hg12b:=hg12;obtain⟨A4,a4,B4,c4',C4,d4,ps4,rfl,_⟩:=hg12b;clear hdo hkp c10 l10 c12 l12 hg';have hI12:=hI11.ext hE12;have hB12:=zp3 hB11 hE12;have hst:=zec hI12.k10 rfl A4 B4 C4 g'.ns.length a4 g'.us.length c4' g'.rs.length d4;clear hI11 hB11 hE12;go_wp2_with fail;go_roundw;case rel=>exact⟨k-1,j+1,P',M',A4,a4,B4,c4',C4,d4,g',by omega,by go_num,hI12.graph hbs hg12 hvl (by omega),hB12.trans (But.more (S:= [b10]) (But.setCell (But.setCell (But.setCell (But.refl _ _) (by simp) _) (by simp) _) (by simp) _) (by simp))⟩
     case measure=>simp[intOf];omega
end Go.Proofs.YtopcdfbplknmlaaGreat
namespace Go.Proofs.YtopcdfbplknmlaaGreat
open Ieee
abbrev xC:Nat:=9218868437227405312
def V(x:Nat):Nat:=if x<4503599627370496 then x else(4503599627370496+x%4503599627370496)*2^(x/4503599627370496-1)
theorem zn9(x:Nat):V x<V (x+1):=by
 unfold V;by_cases h1:x<4503599627370496
 ·rw[if_pos h1]
  by_cases h2:x+1<4503599627370496
  ·rw[if_pos h2];omega
  ·rw[if_neg h2]
   obtain rfl:x=4503599627370495:=by omega
   decide
 ·rw[if_neg h1,if_neg (by omega)]
  by_cases h2:x%4503599627370496=4503599627370495
  ·have e1:(x+1)%4503599627370496=0:=by omega
   have e2:(x+1)/4503599627370496-1=(x/4503599627370496-1)+1:=by omega
   rw[e1,e2,h2,Nat.pow_succ];have:=Nat.two_pow_pos (x/4503599627370496-1);generalize 2^(x/4503599627370496-1)=p at*;omega
  ·have e1:(x+1)%4503599627370496=x%4503599627370496+1:=by omega
   have e2:(x+1)/4503599627370496=x/4503599627370496:=by omega
   rw[e1,e2];exact Nat.mul_lt_mul_of_pos_right (by omega) (Nat.two_pow_pos _)
theorem zoa: ∀(d x:Nat),V x<V (x+(d+1))
 |0,x=>zn9 x
 |d+1,x=>Nat.lt_trans (zoa d x) (zn9 (x+(d+1)))
theorem zh8{x y:Nat}(h:x<y):V x<V y:=by
 have:=zoa (y-x-1) x;rwa[show x+(y-x-1+1)=y by omega]at this
theorem zrp{x y:Nat}(h:x<=y):V x<=V y:=by
 rcases Nat.lt_or_eq_of_le h with h|h
 ·exact Nat.le_of_lt (zh8 h)
 ·subst h;exact Nat.le_refl _
theorem zed{x y:Nat}(h:V x<V y):x<y:=by
 rcases Nat.lt_or_ge x y with h'|h'
 ·exact h'
 ·have:=zrp h';omega
theorem za9{x y:Nat}(h:V x<=V y):x<=y:=by
 rcases Nat.lt_or_ge y x with h'|h'
 ·have:=zh8 h';omega
 ·exact h'
theorem lp:double.leastPlace= -1074:=by decide
theorem kV{x:Nat}(h:x<xC): ∃(m k:Nat),double.read x= .number false m (-1074+(k:Int))∧V x=m*2^k:=by
 have hs:double.signWeight=9223372036854775808:=by decide
 have hb:double.binade=4503599627370496:=by decide
 have hi:double.infRung=9218868437227405312:=by decide
 have e1:x%9223372036854775808=x:=by have:xC=9218868437227405312:=rfl;omega
 have e2:(x/9223372036854775808%2==1)=false:=by
  have:x/9223372036854775808=0:=by have:xC=9218868437227405312:=rfl;omega
  rw[this];decide
 unfold Format.read;simp only[hs,hb,hi,lp,e1,e2];unfold V;by_cases h1:x<4503599627370496
 ·rw[if_pos h1]
  exact⟨x,0,by simp,by rw[if_pos h1];simp⟩
 ·rw[if_neg h1,if_pos h]
  exact⟨_,x/4503599627370496-1,rfl,by rw[if_neg h1]⟩
theorem zgp:double.read xC= .infinity false:=by decide
theorem zk7{x y:Nat}(hx:x<xC)(hy:y<xC):double.order x y=some (compare x y):=by
 obtain⟨m,k,e1,v1⟩:=kV hx;obtain⟨n,l,e2,v2⟩:=kV hy;unfold Format.order;rw[e1,e2];simp only[Datum.order,Option.some.injEq]
 have key: ∀a b:Nat,compare (a:Int) (b:Int)=compare a b:=fun a b=>by
  simp only[compare,compareOfLessAndEq,Int.ofNat_lt,Int.ofNat_inj]
 have hsig: ∀a s:Nat,signed false a s=((a*2^s:Nat):Int):=fun a s=>by simp[signed,Nat.shiftLeft_eq]
 rw[hsig,hsig,key]
 have hcmp: ∀a b c d:Nat,(a<b↔c<d) ->(a=b↔c=d) ->compare a b=compare c d:=fun a b c d h1 h2=>by
  simp only[compare,compareOfLessAndEq];by_cases h:a<b
  ·rw[if_pos h,if_pos (h1.1 h)]
  ·rw[if_neg h,if_neg (fun h'=>h (h1.2 h'))]
   by_cases h':a=b
   ·rw[if_pos h',if_pos (h2.1 h')]
   ·rw[if_neg h',if_neg (fun h''=>h' (h2.2 h''))]
 have hp: ∀(i j:Nat),i<=j->(-1074+(i:Int) -min (-1074+(i:Int)) (-1074+(j:Int))).toNat=0∧(-1074+(j:Int) -min (-1074+(i:Int)) (-1074+(j:Int))).toNat=j-i:=by
  intro i j h;omega
 have hq: ∀(i j:Nat),j<=i->(-1074+(i:Int) -min (-1074+(i:Int)) (-1074+(j:Int))).toNat=i-j∧(-1074+(j:Int) -min (-1074+(i:Int)) (-1074+(j:Int))).toNat=0:=by
  intro i j h;omega
 have hV:(V x<V y↔x<y)∧(V x=V y↔x=y):=⟨⟨zed,zh8⟩,⟨fun h=>by
  rcases Nat.lt_trichotomy x y with h'|h'|h'
  ·have:=zh8 h';omega
  ·exact h'
  ·have:=zh8 h';omega,fun h=>by rw[h]⟩⟩
 rcases Nat.le_total k l with h|h
 ·obtain⟨a,b⟩:=hp k l h
  rw[a,b];have e:V y=n*2^(l-k)*2^k:=by rw[v2,Nat.mul_assoc,<-Nat.pow_add];congr 2;omega
  have pk:=Nat.two_pow_pos k;refine hcmp _ _ _ _ ?_ ?_
  ·rw[<-hV.1,v1,e,Nat.pow_zero,Nat.mul_one]
   exact⟨fun h=>Nat.mul_lt_mul_of_pos_right h pk,fun h=>Nat.lt_of_mul_lt_mul_right h⟩
  ·rw[<-hV.2,v1,e,Nat.pow_zero,Nat.mul_one]
   exact⟨fun h=>by rw[h],fun h=>Nat.eq_of_mul_eq_mul_right pk h⟩
 ·obtain⟨a,b⟩:=hq k l h
  rw[a,b];have e:V x=m*2^(k-l)*2^l:=by rw[v1,Nat.mul_assoc,<-Nat.pow_add];congr 2;omega
  have pk:=Nat.two_pow_pos l;refine hcmp _ _ _ _ ?_ ?_
  ·rw[<-hV.1,v2,e,Nat.pow_zero,Nat.mul_one]
   exact⟨fun h=>Nat.mul_lt_mul_of_pos_right h pk,fun h=>Nat.lt_of_mul_lt_mul_right h⟩
  ·rw[<-hV.2,v2,e,Nat.pow_zero,Nat.mul_one]
   exact⟨fun h=>by rw[h],fun h=>Nat.eq_of_mul_eq_mul_right pk h⟩
theorem j2{x y:Nat}(hx:x<=xC)(hy:y<=xC):double.order x y=some (compare x y):=by
 rcases Nat.lt_or_eq_of_le hx with h1|h1
 ·rcases Nat.lt_or_eq_of_le hy with h2|h2
  ·exact zk7 h1 h2
  ·subst h2
   obtain⟨m,k,e1,_⟩:=kV h1;unfold Format.order;rw[e1,zgp];simp only[Datum.order,Option.some.injEq,compare,compareOfLessAndEq,if_pos h1];rfl
 ·subst h1
  rcases Nat.lt_or_eq_of_le hy with h2|h2
  ·obtain⟨m,k,e1,_⟩:=kV h2
   unfold Format.order;rw[e1,zgp];have h3: ¬xC<y:=by omega
   have h4: ¬xC=y:=by omega
   simp only[Datum.order,Option.some.injEq,compare,compareOfLessAndEq,if_neg h3,if_neg h4];rfl
  ·subst h2
   decide
def zh9(x:Nat):Prop:=x<18446744073709551616∧∃s t,double.read x= .nan s t
theorem vd{x:Nat}(h:zh9 x)(y:Nat):double.order x y=none:=by
 obtain⟨_,s,t,e⟩:=h;unfold Format.order;rw[e];rfl
theorem zp4(t:Nat):zh9 ((t%2)*2^63+0x7ff0000000000000+1+(t/2)%(2^52-1)):=by
 have h1:t%2<2:=Nat.mod_lt _ (by omega);have h2:(t/2)%(2^52-1)<2^52-1:=Nat.mod_lt _ (by decide);generalize t%2=a at*;generalize(t/2)%(2^52-1)=b at*;refine⟨by omega,?_⟩;have hs:double.signWeight=9223372036854775808:=by decide
 have hb:double.binade=4503599627370496:=by decide
 have hi:double.infRung=9218868437227405312:=by decide
 unfold Format.read;simp only[hs,hb,hi];have e1:(a*2^63+0x7ff0000000000000+1+b)%9223372036854775808=0x7ff0000000000000+1+b:=by omega
 rw[e1,if_neg (by omega),if_neg (by omega),if_neg (by omega)];exact⟨_,_,rfl⟩
def Is(k r:Nat):Prop:=(k<=xC∧r=k)∨(k=xC+1∧zh9 r)
def vO(a b:Nat):Nat:=match double.div (FloatKind.f64.nearest a) (FloatKind.f64.nearest b)with|some r=>r|none=>xC+1
theorem zam:FloatKind.f64.nearest 0=0:=by decide
theorem zan:double.read 0= .number false 0 (-1074):=by decide
theorem zgq(n:Nat):Toward.even.cut false n 0=n:=by
 simp[Toward.cut,Nat.shiftLeft_eq,Nat.mod_one]
theorem zjf{a:Nat}(h:0<a):2^a.log2<=a:=Nat.log2_self_le (by omega)
theorem zp5{a:Nat}:a<2^(a.log2+1):=Nat.lt_log2_self
theorem kW{a:Nat}(h0:0<a)(h:a<=1099511627776):a.log2<=40:=by
 have h1:=zjf h0;rcases Nat.lt_or_ge 40 a.log2 with h'|h'
 ·have h3:=Nat.pow_le_pow_right (show 0<2 by omega) h'
  have h4:(2:Nat)^(Nat.succ 40)=2199023255552:=by decide
  rw[h4]at h3;omega
 ·exact h'
theorem qC{a:Nat}(h0:0<a)(h:a<=1099511627776):4503599627370496<=a*2^(52-a.log2)∧a*2^(52-a.log2)<9007199254740992:=by
 have h1:=zjf h0;have h2:= @zp5 a;have h40:=kW h0 h
 have e1:2^a.log2*2^(52-a.log2)=2^52:=by
  rw[<-Nat.pow_add,show a.log2+(52-a.log2)=52 by omega]
 have e2:2^(a.log2+1)*2^(52-a.log2)=2^53:=by
  rw[<-Nat.pow_add,show a.log2+1+(52-a.log2)=53 by omega]
 have p:=Nat.two_pow_pos (52-a.log2);have l1:=Nat.mul_le_mul_right (2^(52-a.log2)) h1;have l2:=Nat.mul_lt_mul_of_pos_right h2 p;rw[e1]at l1;rw[e2]at l2;exact⟨l1,l2⟩
theorem jV(f:Format)(r:Nat):f.word false r=r:=by unfold Format.word;exact if_neg Bool.false_ne_true
theorem zk8{a:Nat}(h0:0<a)(h:a<=1099511627776):
 FloatKind.f64.nearest (a:Int)=(a.log2+1022)*4503599627370496+a*2^(52-a.log2):=by
 obtain⟨l1,l2⟩:=qC h0 h;have h40:=kW h0 h;have hneg:decide ((a:Int)<0)=false:=by simp
 have hb:double.binade=4503599627370496:=by decide
 have hi:double.infRung=9218868437227405312:=by decide
 have hf:double.fractionBits=52:=by decide
 have e0:FloatKind.f64.nearest (a:Int)=double.nearest (decide ((a:Int)<0)) (a:Int).natAbs 0:=rfl;rw[e0,hneg,Int.natAbs_natCast];unfold Format.nearest;rw[if_neg (by omega)];simp only[lp,hb,hi,hf];have em:max (0+(a.log2:Int) -(52:Nat)) (-1074)=(a.log2:Int) -52:=by omega
 rw[em];have ea:(0-((a.log2:Int) -52)).toNat=52-a.log2:=by omega
 have eb:((a.log2:Int) -52-0).toNat=0:=by omega
 have ec:((a.log2:Int) -52- -1074).toNat=a.log2+1022:=by omega
 rw[ea,eb,ec,zgq,Nat.shiftLeft_eq];rw[jV];generalize a*2^(52-a.log2)=m at*;generalize a.log2=q at*;refine Nat.min_eq_left ?_;clear em ea eb ec e0 hneg hb hi hf h0 h;omega
theorem vP{a:Nat}(h0:0<a)(h:a<=1099511627776):
 double.read (FloatKind.f64.nearest (a:Int))= .number false (a*2^(52-a.log2)) ((a.log2:Int) -52):=by
 obtain⟨l1,l2⟩:=qC h0 h;have h40:=kW h0 h;rw[zk8 h0 h];generalize a*2^(52-a.log2)=m at*;generalize a.log2=q at*;have hs:double.signWeight=9223372036854775808:=by decide
 have hb:double.binade=4503599627370496:=by decide
 have hi:double.infRung=9218868437227405312:=by decide
 have e1:((q+1022)*4503599627370496+m)%9223372036854775808=(q+1022)*4503599627370496+m:=by omega
 have e2:(((q+1022)*4503599627370496+m)/9223372036854775808%2==1)=false:=by
  have:((q+1022)*4503599627370496+m)/9223372036854775808=0:=by omega
  rw[this];decide
 unfold Format.read;simp only[hs,hb,hi,lp,e1,e2];rw[if_neg (by omega),if_pos (by omega)];have e3:4503599627370496+((q+1022)*4503599627370496+m)%4503599627370496=m:=by omega
 have e4:(-1074:Int)+(((q+1022)*4503599627370496+m)/4503599627370496-1:Nat)=(q:Int) -52:=by omega
 rw[e3,e4]
theorem zia(m:Nat)(p:Int):double.nearest false m p<=xC:=by
 have hi:double.infRung=9218868437227405312:=by decide
 unfold Format.nearest Format.word;rw[hi];split
 ·simp
 ·simp only[Bool.false_eq_true,if_false]
  exact Nat.min_le_right _ _
theorem zob:double.word false double.infRung=xC:=by decide
theorem zk9(a b:Nat)(ha:a<=1099511627776)(hb:b<=1099511627776):
 (double.div (FloatKind.f64.nearest (a:Int)) (FloatKind.f64.nearest (b:Int))=none∧vO a b=xC+1)∨
 (∃r,double.div (FloatKind.f64.nearest (a:Int)) (FloatKind.f64.nearest (b:Int))=some r∧vO a b=r∧r<=xC):=by
 have key:double.div (FloatKind.f64.nearest (a:Int)) (FloatKind.f64.nearest (b:Int))=none∨∃r,double.div (FloatKind.f64.nearest (a:Int)) (FloatKind.f64.nearest (b:Int))=some r∧r<=xC:=by
  have ra: ∃m p,double.read (FloatKind.f64.nearest (a:Int))= .number false m p:=by
   rcases Nat.eq_zero_or_pos a with h|h
   ·subst h;exact⟨0,-1074,by rw[show((0:Nat):Int)=0 from rfl,zam,zan]⟩
   ·exact⟨_,_,vP h ha⟩
  have rb: ∃m p,double.read (FloatKind.f64.nearest (b:Int))= .number false m p:=by
   rcases Nat.eq_zero_or_pos b with h|h
   ·subst h;exact⟨0,-1074,by rw[show((0:Nat):Int)=0 from rfl,zam,zan]⟩
   ·exact⟨_,_,vP h hb⟩
  obtain⟨m,p,e1⟩:=ra;obtain⟨n,q,e2⟩:=rb;unfold Format.div;rw[e1,e2];simp only[Datum.quotient];split
  ·split
   ·exact .inl rfl
   ·refine .inr ⟨_,rfl,?_⟩
    show double.word (false^^false) double.infRung<=xC;rw[show(false^^false)=false from rfl,zob];exact Nat.le_refl _
  ·refine .inr ⟨_,rfl,?_⟩
   exact zia _ _
 unfold vO;rcases key with h|⟨r,h,hr⟩
 ·exact .inl ⟨h,by rw[h]⟩
 ·exact .inr ⟨r,h,by rw[h],hr⟩
theorem zsi:vO 1 2=4602678819172646912:=by decide+kernel
theorem zqo:vO 0 0=xC+1:=by decide+kernel
end Go.Proofs.YtopcdfbplknmlaaGreat
