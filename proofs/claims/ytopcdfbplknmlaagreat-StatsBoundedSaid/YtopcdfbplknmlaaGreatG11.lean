/- Part of the proof of the claim: walks and plain laws; each theorem states its own conditions. -/
import Derived.Test.YtopcdfbplknmlaaGreatL
import Derived.Test.YtopcdfbplknmlaaGreatG10
set_option linter.all false
set_option maxHeartbeats 4000000
set_option maxRecDepth 100000
namespace Go.Proofs.YtopcdfbplknmlaaGreat
open Go.RowKit Go.Draw
theorem yN{P:Program}{c:Code}{Q:Exit->Act->World->Prop}{a:Act}{w:World}{c1:Array Value}{t1:TypeId}
 (h: ∀W,Blk W w.heap.size t1 c1->Ext w W->c.wp P Q a W):c.wp P Q a (w.alloc (.cells c1 t1)):=
 h _ (Blk.new rfl) (Ext.alloc (Ext.refl w) _)
theorem za0{P:Program}{c:Code}{Q:Exit->Act->World->Prop}{a:Act}{w:World}{c1 c2:Array Value}{t1 t2:TypeId}
 (h: ∀W,Blk W w.heap.size t1 c1->Blk W (w.heap.size+1) t2 c2->Ext w W->c.wp P Q a W):c.wp P Q a ((w.alloc (.cells c1 t1)).alloc (.cells c2 t2)):=
 h _ (Blk.alloc (Blk.new rfl) _) (Blk.new (by simp)) (Ext.alloc (Ext.alloc (Ext.refl w) _) _)
theorem zkc{P:Program}{c:Code}{Q:Exit->Act->World->Prop}{a:Act}{w:World}{c1 c2 c3:Array Value}{t1 t2 t3:TypeId}
 (h: ∀W,Blk W w.heap.size t1 c1->Blk W (w.heap.size+1) t2 c2->Blk W (w.heap.size+1+1) t3 c3->Ext w W->c.wp P Q a W):c.wp P Q a (((w.alloc (.cells c1 t1)).alloc (.cells c2 t2)).alloc (.cells c3 t3)):=
 h _ (Blk.alloc (Blk.alloc (Blk.new rfl) _) _) (Blk.alloc (Blk.new (by simp)) _) (Blk.new (by simp)) (Ext.alloc (Ext.alloc (Ext.alloc (Ext.refl w) _) _) _)
theorem zpe(A Bf:Option Addr)(a b:Nat)(S:Sp)(x:Ch)(wd n:Nat)(w:World)(h1:3<=S.sh∧S.sh<=8)(hw:wd<=100000)(hn:n<=1000):
 Calls Tryz.prog 91 #[.agg #[.int .i64 S.sh,.slice A S.ws.length a,.slice Bf S.fs.length b],.agg #[.int .i64 x.q,.int .i64 x.b,.int .i64 (yz x.c 0),.int .i64 (yp x.c),.int .i64 wd],.int .i64 n] w (zfk w):=by
 refine(zad A Bf a b S x wd n _ w h1 rfl hw hn).mono ?_;rintro e w1 ⟨rfl,hE⟩;exact⟨⟨_,rfl⟩,hE⟩
theorem zfs(A Bf:Option Addr)(a b:Nat)(S:Sp)(x:Ch)(wd:Nat)(w:World)(h1:3<=S.sh∧S.sh<=8)(hw:wd<=100000):
 Calls Tryz.prog 105 #[.agg #[.int .i64 S.sh,.slice A S.ws.length a,.slice Bf S.fs.length b],.agg #[.int .i64 x.q,.int .i64 x.b,.int .i64 (yz x.c 0),.int .i64 (yp x.c),.int .i64 wd]] w (zfk w):=by
 refine(zbh A Bf a b S x wd _ w h1 rfl hw).mono ?_;rintro e w1 ⟨rfl,hE⟩;exact⟨⟨_,rfl⟩,hE⟩
theorem zqy(A Bf:Option Addr)(a b:Nat)(S:Sp)(w:World)(h:SRd w S A Bf)(h4:S.fs.length<=64):
 Calls Tryz.prog 103 #[.agg #[.int .i64 S.sh,.slice A S.ws.length a,.slice Bf S.fs.length b]] w (zfk w):=by
 refine(zly A Bf a b S w h h4).mono ?_;rintro e w1 ⟨⟨z,rfl,_⟩,hE⟩;exact⟨⟨_,rfl⟩,hE⟩
theorem zbw(Ac A0 Bf A:Option Addr)(cc a b c n wd:Nat)(C:Cfg)(S:Sp)(x:Ch)(vs:List Value)(Q:List (List Inc))(w:World)(hA:Rd w Ac C.l.length 4 (y2 C.l))(hC:C.Ok)(hS:SRd w S A0 Bf)(h4:S.fs.length<=64)(hsh:3<=S.sh∧S.sh<=8)(h:BO w 0 A c vs Q)(hQ:Q.length<=1000)(hm: ∀q∈Q,q.length<=10000)(hw: ∀q∈Q,∀i∈q,0<=i.w∧i.w<=100000)(hwd:wd<=100000)(hn:n<=1000):
 Calls Tryz.prog 89 #[.agg #[.string C.s,.slice Ac C.l.length cc,.int .i64 C.f],.agg #[.int .i64 S.sh,.slice A0 S.ws.length a,.slice Bf S.fs.length b],.slice A Q.length c,.agg #[.int .i64 x.q,.int .i64 x.b,.int .i64 (yz x.c 0),.int .i64 (yp x.c),.int .i64 wd],.int .i64 n] w (zmm w):=by
 have Hm:=Lib.hid hm;have Hw:=Lib.hid hw;have HC:=Lib.hid hC;clear hm hw hC;go_enter Tryz.func89,Tryz.ntmps89;go_upto_region 1 with fail;refine zkc (fun W k5 k6 k8 hE0=> ?_);obtain⟨b5,hb5⟩: ∃b,w.heap.size=b:=⟨_,rfl⟩;rw[hb5]at k5 k6 k8|-;have c6:=k6.cell;have l6:=k6.lt;have c8:=k8.cell;have l8:=k8.lt;refine jRE [(true,0),(true,1),(true,2),(true,4),(true,5),(true,6),(false,3),(true,7),(true,8)] Tryz.mixed fun hx=> ?_
 repeat(first
  |refine jLE hx ?_
  |refine jLS ?_
  |(refine yo hx (fun K hK=> ?_);go_simp;go_at_call 91;refine(zpe A0 Bf a b S x wd n _ hsh hwd hn).mono ?_;rintro e w1 ⟨⟨z1,rfl⟩,hE1⟩;refine hK _ _ (hE1) ?_;clear hK hx;intro hx;refine jq ?_)
  |(refine yo hx (fun K hK=> ?_);go_simp;(first|refine hK _ _ jX ?_|refine hK undef _ jX ?_);clear hK hx;intro hx;try refine jq ?_))
 refine zH ?_;have hE1':Ext W w1:=by exact jX
 clear c6 l6 c8 l8 hx hE1;obtain⟨wa,hwa⟩: ∃wa,wa=w1:=⟨_,rfl⟩;subst hwa;replace k5:=k5.ext hE1';replace k6:=k6.ext hE1';replace k8:=k8.ext hE1';have hEa:=hE0.trans hE1';clear hE1' hE0;have c6:=k6.cell;have l6:=k6.lt;by_cases hz:z1=0
 ·subst hz
  go_wp2_with fail;go_ret;exact⟨⟨_,rfl⟩,hEa⟩
 have hz':(z1==0)=false:=by simpa using hz
 clear hz;have hU:=zqy A0 Bf a b S wa (hS.ext hEa) h4;go_wp2_with fail;go_at_call 103;refine hU.mono ?_;rintro e w2 ⟨⟨z2,rfl⟩,hE2⟩;replace k5:=k5.ext hE2;replace k6:=k6.ext hE2;replace k8:=k8.ext hE2;replace hEa:=hEa.trans hE2;obtain⟨wa,hwa⟩: ∃wa,wa=w2:=⟨_,rfl⟩;subst hwa;clear hU hE2 c6 l6;have c5:=k5.cell;have l5:=k5.lt;obtain⟨u,hu⟩: ∃u,wrap64 (z2+z1)=u:=⟨_,rfl⟩;by_cases hgt:(S.fs.length:Int)<u
 ·have d1:decide ((S.fs.length:Int)<u)=true:=by simpa using hgt
  clear hgt;go_wp2_with fail;go_ret;exact⟨⟨_,rfl⟩,hEa⟩
 have d1:decide ((S.fs.length:Int)<u)=false:=by simpa using hgt
 clear hgt;go_wp2_with fail;go_at_call 74;refine(vY C.s Ac C.l.length cc C.l C.f C.z wa (hA.ext hEa) HC.out.nm HC.out.good HC.out.last).mono ?_;rintro e w3 ⟨rfl,hE3⟩;clear c5 l5;replace k6:=k6.ext hE3;replace k8:=k8.ext hE3;replace hEa:=hEa.trans hE3;obtain⟨wb,hwb⟩: ∃wb,wb=w3:=⟨_,rfl⟩;subst hwb;obtain⟨z,hz⟩: ∃z,C.z=z:=⟨_,rfl⟩;rw[hz];cases z with
 |true=>
  go_wp2_with fail;go_ret;exact⟨⟨_,rfl⟩,hEa⟩
 |false=>
  go_upto_region 9 with fail;have c6:=k6.cell;have l6:=k6.lt;have c8:=k8.cell;have l8:=k8.lt;clear hz hu;refine jRE [(true,0),(true,1),(true,2),(true,3),(true,4),(true,6),(true,7),(true,9),(false,5),(false,8),(true,10),(false,11),(true,12),(true,13)] Tryz.mixed fun hx=> ?_
  repeat(first
   |refine jLE hx ?_
   |refine jLS ?_
   |(refine yo hx (fun K hK=> ?_);go_simp;go_at_call 104;refine(zfm A0 Bf A a b c S vs Q _ hsh (h.ext jX) hQ Hm.out Hw.out).mono ?_;rintro e w1 ⟨⟨z3,rfl⟩,hE3⟩;refine hK _ _ (hE3) ?_;clear hK hx;intro hx;refine jq ?_)
   |(refine yo hx (fun K hK=> ?_);go_simp;go_at_call 105;refine(zfs A0 Bf a b S x wd _ hsh hwd).mono ?_;rintro e w1 ⟨⟨z4,rfl⟩,hE4⟩;refine hK _ _ (hE4) ?_;clear hK hx;intro hx;refine jq ?_)
   |(refine yo hx (fun K hK=> ?_);go_simp;(first|refine hK _ _ jX ?_|refine hK undef _ jX ?_);clear hK hx;intro hx;try refine jq ?_))
  refine zH ?_;all_goals go_wp2_with fail
  all_goals go_ret
  all_goals exact⟨⟨_,rfl⟩,by exact jX⟩
theorem vZ(Ac A0 Bf A:Option Addr)(cc a b c n:Nat)(seq:Int)(C:Cfg)(S:Sp)(vs:List Value)(Q:List (List Inc))(w:World)(hA:Rd w Ac C.l.length 4 (y2 C.l))(hC:C.Ok)(hS:SRd w S A0 Bf)(h4:S.fs.length<=64)(hsh:3<=S.sh∧S.sh<=8)(h:BO w 0 A c vs Q)(hQ:Q.length<=1000)(hm: ∀q∈Q,q.length<=10000)(hw: ∀q∈Q,∀i∈q,0<=i.w∧i.w<=100000)(hn:n<=1000):
 Calls Tryz.prog 89 #[.agg #[.string C.s,.slice Ac C.l.length cc,.int .i64 C.f],.agg #[.int .i64 S.sh,.slice A0 S.ws.length a,.slice Bf S.fs.length b],.slice A Q.length c,.agg #[.int .i64 seq,.int .i64 0,.int .i64 (-1),.int .i64 (-1),.int .i64 0],.int .i64 n] w (zmm w):=by
 have h1:yz ([]:List Nat) 0= -1:=rfl;have h2:yp ([]:List Nat)= -1:=rfl;have:=zbw Ac A0 Bf A cc a b c n 0 C S ⟨seq,0,[]⟩ vs Q w hA hC hS h4 hsh h hQ hm hw (by omega) hn;simp only[h1,h2,Int.natCast_zero]at this;exact this
theorem zhb(Ac A0 Bf A:Option Addr)(cc a b c n:Nat)(i:Inc)(C:Cfg)(S:Sp)(vs:List Value)(Q:List (List Inc))(w:World)(hi: ∃(x:Ch) (wd:Nat),i=ke (x,wd)∧wd<=100000)(hA:Rd w Ac C.l.length 4 (y2 C.l))(hC:C.Ok)(hS:SRd w S A0 Bf)(h4:S.fs.length<=64)(hsh:3<=S.sh∧S.sh<=8)(h:BO w 0 A c vs Q)(hQ:Q.length<=1000)(hm: ∀q∈Q,q.length<=10000)(hw: ∀q∈Q,∀i∈q,0<=i.w∧i.w<=100000)(hn:n<=1000):
 Calls Tryz.prog 89 #[.agg #[.string C.s,.slice Ac C.l.length cc,.int .i64 C.f],.agg #[.int .i64 S.sh,.slice A0 S.ws.length a,.slice Bf S.fs.length b],.slice A Q.length c,.agg #[.int .i64 i.q,.int .i64 i.b,.int .i64 i.f,.int .i64 i.l,.int .i64 i.w],.int .i64 n] w (zmm w):=by
 obtain⟨x,wd,rfl,hwd⟩:=hi;exact zbw Ac A0 Bf A cc a b c n wd C S x vs Q w hA hC hS h4 hsh h hQ hm hw hwd hn
def zpf(w:World)(q0:List Inc)(seq:Int)(r:Ending)(w':World):Prop:= ∃k i,r= .returned (.tuple #[.int .i64 k,.agg i.a])∧(k=3∧i=⟨0,0,0,0,0⟩∨k=1∧q0.getLast? =some i∨k=2∧i=⟨seq,0,-1,-1,0⟩)∧Ext w w'
theorem xk{Q:Ending->World->Prop}{a:Act}{W:World}{g1:Nat}{t10:Value}{i:Inc}(hd:a.defers= [])(h10:a.tmps[10]?.getD undef=t10)(h11:a.tmps[11]?.getD undef= .pointer (some ⟨g1,0,none⟩))
 (k1:Blk W g1 144 i.a) (hQ:Q (.returned (.tuple #[t10,.agg i.a])) W):bodyPost Tryz.prog Tryz.f73 Q Exit.ret a W:=by
 have c1:=k1.cell;exact bodyPost_ret (v:= .tuple #[t10,.agg i.a]) (by simp[results,Tryz.results73,go_sem,h10,h11,c1,Inc.a]) hd hQ
theorem zft(Ac A0 Bf A:Option Addr)(cc a b c n:Nat)(seq:Int)(C:Cfg)(S:Sp)(vs:List Value)(Q:List (List Inc))(q0:List Inc)(w:World)(hA:Rd w Ac C.l.length 4 (y2 C.l))(hC:C.Ok)(hS:SRd w S A0 Bf)(h0:1<=S.fs.length)(h4:S.fs.length<=64)(hsh:3<=S.sh∧S.sh<=8)(h:BO w 0 A c vs Q)(hq0:Q[0]? =some q0)(hQ:Q.length<=1000)(hm: ∀q∈Q,q.length<=10000)(hw: ∀q∈Q,∀i∈q,∃(x:Ch) (wd:Nat),i=ke (x,wd)∧wd<=100000)(hn:n<=1000):
 Calls Tryz.prog 73 #[.agg #[.string C.s,.slice Ac C.l.length cc,.int .i64 C.f],.agg #[.int .i64 S.sh,.slice A0 S.ws.length a,.slice Bf S.fs.length b],.slice A Q.length c,.int .i64 seq,.int .i64 n] w (zpf w q0 seq):=by
 have Hw2:=Lib.hid (show∀q∈Q,∀i∈q,0<=i.w∧i.w<=100000 from fun q hq i hi=>by
  obtain⟨x,wd,rfl,hwd⟩:=hw q hq i hi;simp only[ke];omega)
 have Hm:=Lib.hid hm;have Hw:=Lib.hid hw;have HC:=Lib.hid hC;have Hq0:=Lib.hid hq0;have hC1:=hC.good.2.1;have hq0m:=List.mem_of_getElem? hq0;clear hm hw hC hq0;go_enter Tryz.func73,Tryz.ntmps73;go_upto_region 1 with fail;refine zkc (fun W k5 k6 k11 hE0=> ?_);obtain⟨b5,hb5⟩: ∃b,w.heap.size=b:=⟨_,rfl⟩;rw[hb5]at k5 k6 k11|-;have Hb5:=Lib.hid hb5;clear hb5;have c5:=k5.cell;have l5:=k5.lt;have c6:=k6.cell;have l6:=k6.lt;go_wp2_with fail;go_at_call 86;refine(zix Ac cc 0 S.fs.length C W (hA.ext hE0) HC.out hC1 h0 h4).mono ?_;rintro e w1 ⟨⟨z,rfl⟩,hE1⟩;replace k5:=k5.ext hE1;replace k6:=k6.ext hE1;replace k11:=k11.ext hE1;replace hE0:=hE0.trans hE1;clear c5 l5 c6 l6 hE1;obtain⟨wa,hwa⟩: ∃wa,wa=w1:=⟨_,rfl⟩;subst hwa;go_upto_region 3 with fail;refine yN (fun W3 k15 hE3=> ?_);have hn11:=k11.lt;obtain⟨b15,hb15⟩: ∃b,wa.heap.size=b:=⟨_,rfl⟩;rw[hb15]at k15 hn11|-;have hn15:=hn11;clear hn11;have Hb15:=Lib.hid hb15;clear hb15;replace k5:=k5.ext hE3;replace k6:=k6.ext hE3;replace k11:=k11.ext hE3;replace hE0:=hE0.trans hE3;clear hE3;go_wp2_with fail;go_at_call 87;refine(qM A c 0 vs Q q0 W3 (h.ext hE0) Hq0.out (Hm.out q0 hq0m)).mono ?_;rintro e w2 ⟨he,hE2⟩;replace k5:=k5.ext hE2;replace k6:=k6.ext hE2;replace k11:=k11.ext hE2;replace k15:=k15.ext hE2;have hEa:=hE0.trans hE2;clear hE0 hE2;obtain⟨wb,hwb⟩: ∃wb,wb=w2:=⟨_,rfl⟩;subst hwb;rcases hlast:q0.getLast? with _|y
 ·rw[hlast]at he
  subst he;clear hlast;simp only[zbs];go_upto_region 4 with fail;refine yN (fun W4 k16 hE4=> ?_);have hn16:=k15.lt;obtain⟨b16,hb16⟩: ∃b,wb.heap.size=b:=⟨_,rfl⟩;rw[hb16]at k16 hn16|-;have Hb16:=Lib.hid hb16;clear hb16;replace k5:=k5.ext hE4;replace k6:=k6.ext hE4;replace k11:=k11.ext hE4;replace k15:=k15.ext hE4;replace hEa:=hEa.trans hE4;clear hE4;go_upto_region 6 with fail;obtain⟨r,hr⟩: ∃r,C.l[0]? =some r:=⟨_,List.getElem?_eq_getElem hC1⟩;obtain⟨br,o_,hAe,r0,r1,r2,r3⟩:=qN (hA.ext hEa) hr hC1;obtain⟨gB,P,pc,hBe,_,e1,hq0o,_,lg⟩:=(h.ext hEa).at_ Hq0.out;subst hAe hBe;have hC1':(0:Int)<C.l.length:=by omega
  have hQ1:=(List.getElem?_eq_some_iff.1 Hq0.out).1;have hQ1':(0:Int)<Q.length:=by omega
  simp only[Nat.zero_mul,Nat.add_zero,Nat.zero_add]at r1;have lr:=zh r1;have c5:=k5.cell;have l5:=k5.lt;clear r0 r2 r3 hr;obtain⟨lim,hlim⟩: ∃lim,r.2.1=lim:=⟨_,rfl⟩;rw[hlim]at r1;clear hlim;by_cases hl0:lim=0
  ·subst hl0
   go_upto_region 9 with fail;clear c5 l5 e1 r1;go_upto_region 9 with fail;have c5:=k5.cell;have l5:=k5.lt;have c6:=k6.cell;have l6:=k6.lt;have c15:=k15.cell;have l15:=k15.lt;go_wp2_with fail;go_at_call 89;refine(vZ _ _ _ _ _ _ _ _ _ seq C S vs Q _ (hA.ext hEa) HC.out (hS.ext hEa) h4 hsh (h.ext hEa) hQ Hm.out Hw2.out hn).mono ?_;rintro e w4 ⟨⟨zb,rfl⟩,hE4⟩;replace k11:=k11.ext hE4;replace k15:=k15.ext hE4;replace hEa:=hEa.trans hE4;have hzz:=hEa.size_le;have hb5':=Hb5.out;clear c5 l5 c6 l6 c15 l15;have c11:=k11.cell;have l11:=k11.lt;have f11:=k11.froz;have c15:=k15.cell;have l15:=k15.lt;obtain⟨wz,hwz⟩: ∃wz,wz=w4:=⟨_,rfl⟩;subst hwz;cases zb with
   |false=>
    go_wp2_with fail;exact xk rfl rfl rfl (((((k11.set_ 0 _).set_ 1 _).set_ 2 _).set_ 3 _).set_ 4 _) ⟨3,⟨0,0,0,0,0⟩,rfl,.inl ⟨rfl,rfl⟩,Ext.setCell (Ext.setCell (Ext.setCell (Ext.setCell (Ext.setCell hEa (by simp;omega) _) (by simp;omega) _) (by simp;omega) _) (by simp;omega) _) (by simp;omega) _⟩
   |true=>
    go_upto_region 11 with fail;obtain⟨b11,hb11⟩: ∃b,b5+1+1=b:=⟨_,rfl⟩;have hn15': ¬b15=b11:=by omega
    have hzb:w.heap.size<=b11:=by omega
    rw[hb11]at k11 c11 l11 f11|-;have Hzb:=Lib.hid hzb;clear hn15 hb11 hzb hb5' hzz;refine jRB [b11] [(true,0),(true,1),(true,2),(false,3)] Tryz.mixed fun hx hy=> ?_
    repeat(first
     |refine jLB hx ?_
     |refine jLS ?_
     |(refine yP hx (fun K hK=> ?_);go_simp;(first|refine hK _ _ jB ?_|refine hK undef _ jB ?_);clear hK hx;intro hx;try refine jq ?_)
     |(refine yP hx (fun K hK=> ?_);have hcy:=Ext.cell hy;have hfy:=Ext.froz hy;go_simp;(first|refine hK _ _ jB ?_|refine hK undef _ jB ?_);clear hK hx;intro hx;try refine jq ?_))
    refine zH ?_;go_wp2_with fail;have hzb:=Hzb.out;exact xk rfl rfl rfl (((((k11.set_ 0 _).set_ 1 _).set_ 2 _).set_ 3 _).set_ 4 _).drew ⟨_,_,rfl,.inr (.inr ⟨rfl,show _=(⟨seq,0,-1,-1,0⟩:Inc)from rfl⟩),Ext.drew (Ext.setCell (Ext.setCell (Ext.setCell (Ext.setCell (Ext.setCell hEa (by simpa using hzb) _) (by simpa using hzb) _) (by simpa using hzb) _) (by simpa using hzb) _) (by simpa using hzb) _)⟩
  have hl0':(lim !=0)=true:=by simpa using hl0
  have hl1':(lim==0)=false:=by simpa using hl0
  clear hl0;by_cases hge:lim<=(q0.length:Int)
  ·have hge':decide (lim<=(q0.length:Int))=true:=by simpa using hge
   clear hge;have hzz:=hEa.size_le;have hb5':=Hb5.out;have c11:=k11.cell;have l11:=k11.lt;have f11:=k11.froz;go_wp2_with fail;exact xk rfl rfl rfl (((((k11.set_ 0 _).set_ 1 _).set_ 2 _).set_ 3 _).set_ 4 _) ⟨3,⟨0,0,0,0,0⟩,rfl,.inl ⟨rfl,rfl⟩,Ext.setCell (Ext.setCell (Ext.setCell (Ext.setCell (Ext.setCell hEa (by simp;omega) _) (by simp;omega) _) (by simp;omega) _) (by simp;omega) _) (by simp;omega) _⟩
  have hge':decide (lim<=(q0.length:Int))=false:=by simpa using hge
  clear hge;go_upto_region 9 with fail;clear c5 l5 e1 r1;go_upto_region 9 with fail;have c5:=k5.cell;have l5:=k5.lt;have c6:=k6.cell;have l6:=k6.lt;have c15:=k15.cell;have l15:=k15.lt;go_wp2_with fail;go_at_call 89;refine(vZ _ _ _ _ _ _ _ _ _ seq C S vs Q _ (hA.ext hEa) HC.out (hS.ext hEa) h4 hsh (h.ext hEa) hQ Hm.out Hw2.out hn).mono ?_;rintro e w4 ⟨⟨zb,rfl⟩,hE4⟩;replace k11:=k11.ext hE4;replace k15:=k15.ext hE4;replace hEa:=hEa.trans hE4;have hzz:=hEa.size_le;have hb5':=Hb5.out;clear c5 l5 c6 l6 c15 l15;have c11:=k11.cell;have l11:=k11.lt;have f11:=k11.froz;have c15:=k15.cell;have l15:=k15.lt;obtain⟨wz,hwz⟩: ∃wz,wz=w4:=⟨_,rfl⟩;subst hwz;cases zb with
  |false=>
   go_wp2_with fail;exact xk rfl rfl rfl (((((k11.set_ 0 _).set_ 1 _).set_ 2 _).set_ 3 _).set_ 4 _) ⟨3,⟨0,0,0,0,0⟩,rfl,.inl ⟨rfl,rfl⟩,Ext.setCell (Ext.setCell (Ext.setCell (Ext.setCell (Ext.setCell hEa (by simp;omega) _) (by simp;omega) _) (by simp;omega) _) (by simp;omega) _) (by simp;omega) _⟩
  |true=>
   go_upto_region 11 with fail;obtain⟨b11,hb11⟩: ∃b,b5+1+1=b:=⟨_,rfl⟩;have hn15': ¬b15=b11:=by omega
   have hzb:w.heap.size<=b11:=by omega
   rw[hb11]at k11 c11 l11 f11|-;have Hzb:=Lib.hid hzb;clear hn15 hb11 hzb hb5' hzz;refine jRB [b11] [(true,0),(true,1),(true,2),(false,3)] Tryz.mixed fun hx hy=> ?_
   repeat(first
    |refine jLB hx ?_
    |refine jLS ?_
    |(refine yP hx (fun K hK=> ?_);go_simp;(first|refine hK _ _ jB ?_|refine hK undef _ jB ?_);clear hK hx;intro hx;try refine jq ?_)
    |(refine yP hx (fun K hK=> ?_);have hcy:=Ext.cell hy;have hfy:=Ext.froz hy;go_simp;(first|refine hK _ _ jB ?_|refine hK undef _ jB ?_);clear hK hx;intro hx;try refine jq ?_))
   refine zH ?_;go_wp2_with fail;have hzb:=Hzb.out;exact xk rfl rfl rfl (((((k11.set_ 0 _).set_ 1 _).set_ 2 _).set_ 3 _).set_ 4 _).drew ⟨_,_,rfl,.inr (.inr ⟨rfl,show _=(⟨seq,0,-1,-1,0⟩:Inc)from rfl⟩),Ext.drew (Ext.setCell (Ext.setCell (Ext.setCell (Ext.setCell (Ext.setCell hEa (by simpa using hzb) _) (by simpa using hzb) _) (by simpa using hzb) _) (by simpa using hzb) _) (by simpa using hzb) _)⟩
 ·rw[hlast]at he
  subst he;have Hlast:=Lib.hid hlast;clear hlast;simp only[zbs];go_upto_region 4 with fail;refine yN (fun W4 k16 hE4=> ?_);have hn16:=k15.lt;obtain⟨b16,hb16⟩: ∃b,wb.heap.size=b:=⟨_,rfl⟩;rw[hb16]at k16 hn16|-;have Hb16:=Lib.hid hb16;clear hb16;replace k5:=k5.ext hE4;replace k6:=k6.ext hE4;replace k11:=k11.ext hE4;replace k15:=k15.ext hE4;replace hEa:=hEa.trans hE4;clear hE4;have c6:=k6.cell;have l6:=k6.lt;have c16:=k16.cell;have l16:=k16.lt;go_wp2_with fail;go_at_call 88;refine(zfn A0 Bf a b S y z W4 hsh).mono ?_;rintro e w3 ⟨⟨zb,rfl⟩,hE3⟩;replace k5:=k5.ext hE3;replace k6:=k6.ext hE3;replace k11:=k11.ext hE3;replace k15:=k15.ext hE3;replace k16:=k16.ext hE3;replace hEa:=hEa.trans hE3;clear c6 l6 c16 l16 hE3;obtain⟨wc,hwc⟩: ∃wc,wc=w3:=⟨_,rfl⟩;subst hwc;cases zb with
  |false=>
   go_upto_region 6 with fail;obtain⟨r,hr⟩: ∃r,C.l[0]? =some r:=⟨_,List.getElem?_eq_getElem hC1⟩;obtain⟨br,o_,hAe,r0,r1,r2,r3⟩:=qN (hA.ext hEa) hr hC1;obtain⟨gB,P,pc,hBe,_,e1,hq0o,_,lg⟩:=(h.ext hEa).at_ Hq0.out;subst hAe hBe;have hC1':(0:Int)<C.l.length:=by omega
   have hQ1:=(List.getElem?_eq_some_iff.1 Hq0.out).1;have hQ1':(0:Int)<Q.length:=by omega
   simp only[Nat.zero_mul,Nat.add_zero,Nat.zero_add]at r1;have lr:=zh r1;have c5:=k5.cell;have l5:=k5.lt;clear r0 r2 r3 hr;obtain⟨lim,hlim⟩: ∃lim,r.2.1=lim:=⟨_,rfl⟩;rw[hlim]at r1;clear hlim;by_cases hl0:lim=0
   ·subst hl0
    go_upto_region 9 with fail;clear c5 l5 e1 r1;go_upto_region 9 with fail;have c5:=k5.cell;have l5:=k5.lt;have c6:=k6.cell;have l6:=k6.lt;have c15:=k15.cell;have l15:=k15.lt;go_wp2_with fail;go_at_call 89;refine(vZ _ _ _ _ _ _ _ _ _ seq C S vs Q _ (hA.ext hEa) HC.out (hS.ext hEa) h4 hsh (h.ext hEa) hQ Hm.out Hw2.out hn).mono ?_;rintro e w4 ⟨⟨zb,rfl⟩,hE4⟩;replace k11:=k11.ext hE4;replace k15:=k15.ext hE4;replace hEa:=hEa.trans hE4;have hzz:=hEa.size_le;have hb5':=Hb5.out;clear c5 l5 c6 l6 c15 l15;have c11:=k11.cell;have l11:=k11.lt;have f11:=k11.froz;have c15:=k15.cell;have l15:=k15.lt;obtain⟨wz,hwz⟩: ∃wz,wz=w4:=⟨_,rfl⟩;subst hwz;cases zb with
    |false=>
     go_wp2_with fail;exact xk rfl rfl rfl (((((k11.set_ 0 _).set_ 1 _).set_ 2 _).set_ 3 _).set_ 4 _) ⟨3,⟨0,0,0,0,0⟩,rfl,.inl ⟨rfl,rfl⟩,Ext.setCell (Ext.setCell (Ext.setCell (Ext.setCell (Ext.setCell hEa (by simp;omega) _) (by simp;omega) _) (by simp;omega) _) (by simp;omega) _) (by simp;omega) _⟩
    |true=>
     go_upto_region 11 with fail;obtain⟨b11,hb11⟩: ∃b,b5+1+1=b:=⟨_,rfl⟩;have hn15': ¬b15=b11:=by omega
     have hzb:w.heap.size<=b11:=by omega
     rw[hb11]at k11 c11 l11 f11|-;have Hzb:=Lib.hid hzb;clear hn15 hb11 hzb hb5' hzz;refine jRB [b11] [(true,0),(true,1),(true,2),(false,3)] Tryz.mixed fun hx hy=> ?_
     repeat(first
      |refine jLB hx ?_
      |refine jLS ?_
      |(refine yP hx (fun K hK=> ?_);go_simp;(first|refine hK _ _ jB ?_|refine hK undef _ jB ?_);clear hK hx;intro hx;try refine jq ?_)
      |(refine yP hx (fun K hK=> ?_);have hcy:=Ext.cell hy;have hfy:=Ext.froz hy;go_simp;(first|refine hK _ _ jB ?_|refine hK undef _ jB ?_);clear hK hx;intro hx;try refine jq ?_))
     refine zH ?_;go_wp2_with fail;have hzb:=Hzb.out;exact xk rfl rfl rfl (((((k11.set_ 0 _).set_ 1 _).set_ 2 _).set_ 3 _).set_ 4 _).drew ⟨_,_,rfl,.inr (.inr ⟨rfl,show _=(⟨seq,0,-1,-1,0⟩:Inc)from rfl⟩),Ext.drew (Ext.setCell (Ext.setCell (Ext.setCell (Ext.setCell (Ext.setCell hEa (by simpa using hzb) _) (by simpa using hzb) _) (by simpa using hzb) _) (by simpa using hzb) _) (by simpa using hzb) _)⟩
   have hl0':(lim !=0)=true:=by simpa using hl0
   have hl1':(lim==0)=false:=by simpa using hl0
   clear hl0;by_cases hge:lim<=(q0.length:Int)
   ·have hge':decide (lim<=(q0.length:Int))=true:=by simpa using hge
    clear hge;have hzz:=hEa.size_le;have hb5':=Hb5.out;have c11:=k11.cell;have l11:=k11.lt;have f11:=k11.froz;go_wp2_with fail;exact xk rfl rfl rfl (((((k11.set_ 0 _).set_ 1 _).set_ 2 _).set_ 3 _).set_ 4 _) ⟨3,⟨0,0,0,0,0⟩,rfl,.inl ⟨rfl,rfl⟩,Ext.setCell (Ext.setCell (Ext.setCell (Ext.setCell (Ext.setCell hEa (by simp;omega) _) (by simp;omega) _) (by simp;omega) _) (by simp;omega) _) (by simp;omega) _⟩
   have hge':decide (lim<=(q0.length:Int))=false:=by simpa using hge
   clear hge;go_upto_region 9 with fail;clear c5 l5 e1 r1;go_upto_region 9 with fail;have c5:=k5.cell;have l5:=k5.lt;have c6:=k6.cell;have l6:=k6.lt;have c15:=k15.cell;have l15:=k15.lt;go_wp2_with fail;go_at_call 89;refine(vZ _ _ _ _ _ _ _ _ _ seq C S vs Q _ (hA.ext hEa) HC.out (hS.ext hEa) h4 hsh (h.ext hEa) hQ Hm.out Hw2.out hn).mono ?_;rintro e w4 ⟨⟨zb,rfl⟩,hE4⟩;replace k11:=k11.ext hE4;replace k15:=k15.ext hE4;replace hEa:=hEa.trans hE4;have hzz:=hEa.size_le;have hb5':=Hb5.out;clear c5 l5 c6 l6 c15 l15;have c11:=k11.cell;have l11:=k11.lt;have f11:=k11.froz;have c15:=k15.cell;have l15:=k15.lt;obtain⟨wz,hwz⟩: ∃wz,wz=w4:=⟨_,rfl⟩;subst hwz;cases zb with
   |false=>
    go_wp2_with fail;exact xk rfl rfl rfl (((((k11.set_ 0 _).set_ 1 _).set_ 2 _).set_ 3 _).set_ 4 _) ⟨3,⟨0,0,0,0,0⟩,rfl,.inl ⟨rfl,rfl⟩,Ext.setCell (Ext.setCell (Ext.setCell (Ext.setCell (Ext.setCell hEa (by simp;omega) _) (by simp;omega) _) (by simp;omega) _) (by simp;omega) _) (by simp;omega) _⟩
   |true=>
    go_upto_region 11 with fail;obtain⟨b11,hb11⟩: ∃b,b5+1+1=b:=⟨_,rfl⟩;have hn15': ¬b15=b11:=by omega
    have hzb:w.heap.size<=b11:=by omega
    rw[hb11]at k11 c11 l11 f11|-;have Hzb:=Lib.hid hzb;clear hn15 hb11 hzb hb5' hzz;refine jRB [b11] [(true,0),(true,1),(true,2),(false,3)] Tryz.mixed fun hx hy=> ?_
    repeat(first
     |refine jLB hx ?_
     |refine jLS ?_
     |(refine yP hx (fun K hK=> ?_);go_simp;(first|refine hK _ _ jB ?_|refine hK undef _ jB ?_);clear hK hx;intro hx;try refine jq ?_)
     |(refine yP hx (fun K hK=> ?_);have hcy:=Ext.cell hy;have hfy:=Ext.froz hy;go_simp;(first|refine hK _ _ jB ?_|refine hK undef _ jB ?_);clear hK hx;intro hx;try refine jq ?_))
    refine zH ?_;go_wp2_with fail;have hzb:=Hzb.out;exact xk rfl rfl rfl (((((k11.set_ 0 _).set_ 1 _).set_ 2 _).set_ 3 _).set_ 4 _).drew ⟨_,_,rfl,.inr (.inr ⟨rfl,show _=(⟨seq,0,-1,-1,0⟩:Inc)from rfl⟩),Ext.drew (Ext.setCell (Ext.setCell (Ext.setCell (Ext.setCell (Ext.setCell hEa (by simpa using hzb) _) (by simpa using hzb) _) (by simpa using hzb) _) (by simpa using hzb) _) (by simpa using hzb) _)⟩
  |true=>
   go_upto_region 5 with fail;have c16:=k16.cell;have l16:=k16.lt;have c15:=k15.cell;have l15:=k15.lt;have f15:=k15.froz;have hnn: ¬b16=b15:=by omega
   refine jRB [b15] [(true,0),(true,1),(false,2)] Tryz.mixed fun hx hy=> ?_
   repeat(first
    |refine jLB hx ?_
    |refine jLS ?_
    |(refine yP hx (fun K hK=> ?_);go_simp;(first|refine hK _ _ jB ?_|refine hK undef _ jB ?_);clear hK hx;intro hx;try refine jq ?_)
    |(refine yP hx (fun K hK=> ?_);have hcy:=Ext.cell hy;have hfy:=Ext.froz hy;go_simp;(first|refine hK _ _ jB ?_|refine hK undef _ jB ?_);clear hK hx;intro hx;try refine jq ?_))
   refine zH ?_;have k15':=(((((k15.set_ 0 (.int .i64 y.q)).set_ 1 (.int .i64 y.b)).set_ 2 (.int .i64 y.f)).set_ 3 (.int .i64 y.l)).set_ 4 (.int .i64 y.w)).drew;have e1:But [b15] wc (((((wc.setCell ⟨b15,0,none⟩ (.int .i64 y.q)).setCell ⟨b15,1,none⟩ (.int .i64 y.b)).setCell ⟨b15,2,none⟩ (.int .i64 y.f)).setCell ⟨b15,3,none⟩ (.int .i64 y.l)).setCell ⟨b15,4,none⟩ (.int .i64 y.w)).drew:=But.drew (But.setCell (But.setCell (But.setCell (But.setCell (But.setCell (But.refl _ _) (by simp) _) (by simp) _) (by simp) _) (by simp) _) (by simp) _);clear c16 l16 c15 l15 f15 hx hy;generalize(((((wc.setCell ⟨b15,0,none⟩ (.int .i64 y.q)).setCell ⟨b15,1,none⟩ (.int .i64 y.b)).setCell ⟨b15,2,none⟩ (.int .i64 y.f)).setCell ⟨b15,3,none⟩ (.int .i64 y.l)).setCell ⟨b15,4,none⟩ (.int .i64 y.w)).drew=wd at*;clear k15 k16;have k15:=k15';clear k15';replace k5:=k5.but e1 (by simp;omega);replace k6:=k6.but e1 (by simp;omega);replace k11:=k11.but e1 (by simp;omega);have hb5'':=Hb5.out;replace hEa:=But.ext hEa e1 (by intro q hq;have:=List.mem_singleton.1 hq;omega);clear hb5'' e1 hnn;go_upto_region 9 with fail;have c5:=k5.cell;have l5:=k5.lt;have c6:=k6.cell;have l6:=k6.lt;have c15:=k15.cell;have l15:=k15.lt;go_wp2_with fail;go_at_call 89;refine(zhb _ _ _ _ _ _ _ _ _ y C S vs Q _ (Hw.out q0 hq0m y (List.mem_of_getLast? Hlast.out)) (hA.ext hEa) HC.out (hS.ext hEa) h4 hsh (h.ext hEa) hQ Hm.out Hw2.out hn).mono ?_;rintro e w4 ⟨⟨zb,rfl⟩,hE4⟩;replace k11:=k11.ext hE4;replace k15:=k15.ext hE4;replace hEa:=hEa.trans hE4;have hzz:=hEa.size_le;have hb5':=Hb5.out;clear c5 l5 c6 l6 c15 l15;have c11:=k11.cell;have l11:=k11.lt;have f11:=k11.froz;have c15:=k15.cell;have l15:=k15.lt;obtain⟨wz,hwz⟩: ∃wz,wz=w4:=⟨_,rfl⟩;subst hwz;cases zb with
   |false=>
    go_wp2_with fail;exact xk rfl rfl rfl (((((k11.set_ 0 _).set_ 1 _).set_ 2 _).set_ 3 _).set_ 4 _) ⟨3,⟨0,0,0,0,0⟩,rfl,.inl ⟨rfl,rfl⟩,Ext.setCell (Ext.setCell (Ext.setCell (Ext.setCell (Ext.setCell hEa (by simp;omega) _) (by simp;omega) _) (by simp;omega) _) (by simp;omega) _) (by simp;omega) _⟩
   |true=>
    go_upto_region 11 with fail;obtain⟨b11,hb11⟩: ∃b,b5+1+1=b:=⟨_,rfl⟩;have hn15': ¬b15=b11:=by omega
    have hzb:w.heap.size<=b11:=by omega
    rw[hb11]at k11 c11 l11 f11|-;have Hzb:=Lib.hid hzb;clear hn15 hb11 hzb hb5' hzz;refine jRB [b11] [(true,0),(true,1),(true,2),(false,3)] Tryz.mixed fun hx hy=> ?_
    repeat(first
     |refine jLB hx ?_
     |refine jLS ?_
     |(refine yP hx (fun K hK=> ?_);go_simp;(first|refine hK _ _ jB ?_|refine hK undef _ jB ?_);clear hK hx;intro hx;try refine jq ?_)
     |(refine yP hx (fun K hK=> ?_);have hcy:=Ext.cell hy;have hfy:=Ext.froz hy;go_simp;(first|refine hK _ _ jB ?_|refine hK undef _ jB ?_);clear hK hx;intro hx;try refine jq ?_))
    refine zH ?_;go_wp2_with fail;have hzb:=Hzb.out;exact xk rfl rfl rfl (((((k11.set_ 0 _).set_ 1 _).set_ 2 _).set_ 3 _).set_ 4 _).drew ⟨_,_,rfl,.inr (.inl ⟨rfl,Hlast.out⟩),Ext.drew (Ext.setCell (Ext.setCell (Ext.setCell (Ext.setCell (Ext.setCell hEa (by simpa using hzb) _) (by simpa using hzb) _) (by simpa using hzb) _) (by simpa using hzb) _) (by simpa using hzb) _)⟩
def zqf(w:World)(r:Ending)(w':World):Prop:=(∃A n c,r= .returned (.slice A n c))∧Ext w w'
theorem zmw(Ac A:Option Addr)(cc c:Nat)(C:Cfg)(vs:List Value)(Q:List (List Inc))(w:World)(hA:Rd w Ac C.l.length 4 (y2 C.l))(hC:C.Ok)(h:BO w 0 A c vs Q)(hQ:Q.length=C.l.length)(hm: ∀q∈Q,q.length<=10000):
 Calls Tryz.prog 94 #[.agg #[.string C.s,.slice Ac C.l.length cc,.int .i64 C.f],.slice A Q.length c] w (zqf w):=by
 have Hm:=Lib.hid hm;have HC:=Lib.hid hC;have hC4:=hC.good.2.2.1;have HQ:=Lib.hid hQ;have hQ4:Q.length<=4:=by omega
 rw[hQ];clear hm hC hQ;go_enter Tryz.func94,Tryz.ntmps94;go_upto_region 1 with fail;refine yN (fun W k2 hE0=> ?_);obtain⟨b2,hb2⟩: ∃b,w.heap.size=b:=⟨_,rfl⟩;rw[hb2]at k2|-;clear hb2;have c2:=k2.cell;have l2:=k2.lt;go_wp2_with fail;go_at_call 26;refine(j9 C.s Ac C.l.length cc C.l C.f C.z W (hA.ext hE0) HC.out.nm HC.out.good HC.out.last).mono ?_;rintro e w1 ⟨rfl,hE1⟩;clear c2 l2;replace k2:=k2.ext hE1;replace hE0:=hE0.trans hE1;clear hE1;obtain⟨W,hW⟩: ∃W,W=w1:=⟨_,rfl⟩;subst hW;have c2:=k2.cell;have l2:=k2.lt;go_wp2_with fail;clear c2 l2;go_loopw [5,22] (fun s i wr=> ∃(k:Nat) (D:Option Addr) (d:Nat) (xs:List Int),k<=C.l.length∧xs.length<=k∧i= .int .i64 k∧s= .slice D xs.length d∧wr.ownsRow W.heap.size 3 1 (.slice D xs.length d) xs.length (yb xs)∧Ext W wr) (fun _ i _=>C.l.length-(intOf i).toNat);case atStart=>exact⟨0,none,0,[],by omega,by simp,rfl,rfl,zP _ _ _ _,Ext.refl _⟩
 case round=>
  obtain⟨k,D,d,xs,hk,hxk,rfl,rfl,hown,hE⟩:=hrel;have k2r:=k2.ext hE;have c2:=k2r.cell;have l2:=k2r.lt;have hsz:=hE.size_le;by_cases hlt:k<C.l.length
  ·have hdec:decide ((k:Int)<C.l.length)=true:=by simp;omega
   have hdec':decide (k<C.l.length)=true:=by simp;omega
   have hkI:(k:Int)<C.l.length:=by omega
   obtain⟨q,hq⟩: ∃q,Q[k]? =some q:=⟨_,List.getElem?_eq_getElem (by rw[HQ.out];exact hlt)⟩;obtain⟨g,P,pc,rfl,_,c1,hq0,_,lg⟩:=(h.ext (hE0.trans hE)).at_ hq;obtain⟨r,hr⟩: ∃r,C.l[k]? =some r:=⟨_,List.getElem?_eq_getElem hlt⟩;obtain⟨br,o_,rfl,r0,r1,r2,r3⟩:=qN (hA.ext (hE0.trans hE)) hr hlt;have lr:=zh r1;obtain⟨lim,hlim⟩: ∃lim,r.2.1=lim:=⟨_,rfl⟩;rw[hlim]at r1;clear hlim hr hq r0 r2 r3;by_cases hl0:lim=0
   ·subst hl0
    go_wp2_with fail;go_roundw;case rel=>exact⟨k+1,D,d,xs,by omega,by omega,by go_num,rfl,hown,hE⟩
    case measure=>simp[intOf];omega
   ·have hl0':(lim !=0)=true:=by simpa using hl0
    have hl1':(lim==0)=false:=by simpa using hl0
    clear hl0;by_cases hge:lim<(q.length:Int)
    ·have hge':decide (lim<(q.length:Int))=true:=by simpa using hge
     clear hge;go_wp2_with(first|(at_builtin;refine zJ rfl Tryz.elI _ _ rfl W.heap.size _ _ _ rfl (z8 hown _) _ 1 1 _ rfl (xm _ _ _) (by simp[Value.oneCell']) (by omega) (by omega) (by(first|omega|(simp;done)|(simp;omega))) ?_;intro A2 a2 w2 hown2 hg2 hat2;have hE2:Ext W w2:=yy (Ext.alloc hE _) hg2 (z8 hown _) (by omega);have k2':=k2.ext hE2));go_roundw;case rel=>exact⟨k+1,A2,a2,xs++ [(k:Int)],by omega,by simp;omega,by go_num,by simp,by simpa[yb]using hown2,hE2⟩
     case measure=>simp[intOf];omega
    ·have hge':decide (lim<(q.length:Int))=false:=by simpa using hge
     clear hge;go_wp2_with fail;go_roundw;case rel=>exact⟨k+1,D,d,xs,by omega,by omega,by go_num,rfl,hown,hE⟩
     case measure=>simp[intOf];omega
  ·have hdec:decide ((k:Int)<C.l.length)=false:=by simp;omega
   have hdec':decide (k<C.l.length)=false:=by simp;omega
   go_wp2_with fail;go_ret;exact⟨⟨_,_,_,rfl⟩,hE0.trans hE⟩
end Go.Proofs.YtopcdfbplknmlaaGreat
