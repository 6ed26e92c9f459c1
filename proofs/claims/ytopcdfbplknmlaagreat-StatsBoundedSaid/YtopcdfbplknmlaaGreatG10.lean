/- Part of the proof of the claim: walks and plain laws; each theorem states its own conditions. -/
import Derived.Test.YtopcdfbplknmlaaGreatL
import Derived.Test.YtopcdfbplknmlaaGreatG9
import Derived.Laws.StructEq
import Derived.Laws.BytesArg
set_option linter.all false
set_option maxHeartbeats 4000000
set_option maxRecDepth 100000
namespace Go.Proofs.YtopcdfbplknmlaaGreat
open Go.RowKit Go.Draw
theorem zmj(U R:Option Addr)(cu cr k:Nat)(us:List Bool)(rs:List Int)(w:World)(h:RO w 0 U cu R cr us rs)(hk:zmi us rs)(hu:us[k]? =some true):
 Calls Tryz.prog 64 #[.agg #[.slice U us.length cu,.slice R rs.length cr],.int .i64 ((k:Int)+1)] w fun r w'=>r= .returned (.int .i64 0)∧Ext w w':=by
 have hul:=hk.1;have hkl:=(List.getElem?_eq_some_iff.1 hu).1;obtain⟨bU,oU,rfl,u0⟩:=j7 (Rd.of_own h.u) hu;have hk32:k<32:=by omega
 have e1:decide ((k:Int)+1<1)=false:=by(first|omega|(simp;done)|(simp;omega))
 have e2:decide ((32:Int)<(k:Int)+1)=false:=by(first|omega|(simp;done)|(simp;omega))
 have e3:(k:Int)+1-1=k:=by omega
 have hkI:(k:Int)<us.length:=by omega
 have Hk:=Lib.hid hk;clear hk hu hul;go_enter Tryz.func64,Tryz.ntmps64;go_upto_region 1 with fail;have k0:Blk (w.alloc (.cells #[.slice (some ⟨bU,oU,none⟩) us.length cu,.slice R rs.length cr] 34)) w.heap.size 34 #[.slice (some ⟨bU,oU,none⟩) us.length cu,.slice R rs.length cr]:=Blk.new rfl;have hE0:=Ext.alloc (Ext.refl w) (.cells #[.slice (some ⟨bU,oU,none⟩) us.length cu,.slice R rs.length cr] 34);replace u0:=zp hE0 u0;generalize w.alloc (.cells #[.slice (some ⟨bU,oU,none⟩) us.length cu,.slice R rs.length cr] 34)=W at*;have c0:=k0.cell;have l0:=k0.lt;have hV:=zbu (some ⟨bU,oU,none⟩) R cu cr us rs W (h.ext hE0) Hk.out;go_wp2_with fail;go_at_call 80;refine hV.mono ?_;rintro e w1 ⟨rfl,hE1⟩;have k1:=k0.ext hE1;clear c0 l0;have c1:=k1.cell;have l1:=k1.lt;have u1:=zp hE1 u0;have lU:=zh u1;go_wp2_with fail;go_ret;exact⟨rfl,hE0.trans hE1⟩
theorem zmk{Q:Ending->World->Prop}{a:Act}{W:World}{g1:Nat}{v0 v1 t5 t6:Value}(hd:a.defers= [])(h4:a.tmps[4]?.getD undef= .pointer (some ⟨g1,0,none⟩))(h5:a.tmps[5]?.getD undef=t5)(h6:a.tmps[6]?.getD undef=t6)
 (k1:Blk W g1 34 #[v0,v1]) (hQ:Q (.returned (.tuple #[.agg #[v0,v1],t5,t6])) W):bodyPost Tryz.prog Tryz.f57 Q Exit.ret a W:=by
 have c1:=k1.cell;exact bodyPost_ret (v:= .tuple #[.agg #[v0,v1],t5,t6]) (by simp[results,Tryz.results57,go_sem,h4,h5,h6,c1]) hd hQ
theorem zj2{Q:Ending->World->Prop}{a:Act}{W:World}{g1:Nat}{v0 v1 t5:Value}(hd:a.defers= [])(h4:a.tmps[4]?.getD undef= .pointer (some ⟨g1,0,none⟩))(h5:a.tmps[5]?.getD undef=t5)
 (k1:Blk W g1 34 #[v0,v1]) (hQ:Q (.returned (.tuple #[.agg #[v0,v1],t5])) W):bodyPost Tryz.prog Tryz.f40 Q Exit.ret a W:=by
 have c1:=k1.cell;exact bodyPost_ret (v:= .tuple #[.agg #[v0,v1],t5]) (by simp[results,Tryz.results40,go_sem,h4,h5,c1]) hd hQ
def zpc(w:World)(us:List Bool)(rs:List Int)(k:Nat)(v:Int)(r:Ending)(w':World):Prop:= ∃U cu R cr,r= .returned (.tuple #[.agg #[.slice U us.length cu,.slice R rs.length cr],.int .i64 ((k:Int)+1),.int .i64 0])∧RO w' w.heap.size U cu R cr (us.set k true) (rs.set k v)∧Ext w w'
theorem zfj(U R:Option Addr)(cu cr k:Nat)(us:List Bool)(rs:List Int)(v:Int)(w:World)(h:RO w 0 U cu R cr us rs)(hk:zmi us rs)(hu:us[k]? =some false)(hj: ∀j,j<k->us[j]? =some true):
 Calls Tryz.prog 57 #[.agg #[.slice U us.length cu,.slice R rs.length cr],.int .u64 v] w (zpc w us rs k v):=by
 have hul:=hk.1;have hrl:=hk.2.1;have hkl:=(List.getElem?_eq_some_iff.1 hu).1;have hul2:us.length<=32:=by omega
 have hrl2:rs.length<=32:=by omega
 have hrl3:32<=rs.length:=by omega
 have hk32:k<32:=by omega
 have Hk:=Lib.hid hk;have Hu:=Lib.hid hu;have Hj:=Lib.hid hj;clear hk hu hj hul hrl;go_enter Tryz.func57,Tryz.ntmps57;go_upto_region 1 with fail;have k2:Blk ((w.alloc (.cells #[.slice U us.length cu,.slice R rs.length cr] 34)).alloc (.cells #[.slice none 0 0,.slice none 0 0] 34)) w.heap.size 34 #[.slice U us.length cu,.slice R rs.length cr]:=Blk.alloc (Blk.new rfl) _;have k4:Blk ((w.alloc (.cells #[.slice U us.length cu,.slice R rs.length cr] 34)).alloc (.cells #[.slice none 0 0,.slice none 0 0] 34)) (w.heap.size+1) 34 #[.slice none 0 0,.slice none 0 0]:=Blk.new (by simp);have hE0:Ext w ((w.alloc (.cells #[.slice U us.length cu,.slice R rs.length cr] 34)).alloc (.cells #[.slice none 0 0,.slice none 0 0] 34)):=by exact jX
 generalize(w.alloc (.cells #[.slice U us.length cu,.slice R rs.length cr] 34)).alloc (.cells #[.slice none 0 0,.slice none 0 0] 34)=W at*;have c0:=k2.cell;have l0:=k2.lt;have hV:=zbu U R cu cr us rs W (h.ext hE0) Hk.out;go_wp2_with fail;go_at_call 80;refine hV.mono ?_;rintro e w1 ⟨rfl,hE1⟩;have hE01:=hE0.trans hE1;replace k2:=k2.ext hE1;replace k4:=k4.ext hE1;clear c0 l0 hV hE0 hE1;have c0:=k2.cell;have l0:=k2.lt;obtain⟨wa,hwa⟩: ∃wa,wa=w1:=⟨_,rfl⟩;subst hwa;obtain⟨b2,hb2⟩: ∃b2,w.heap.size=b2:=⟨_,rfl⟩;rw[hb2]at k2 k4 c0 l0|-;have Hb2:=Lib.hid hb2;clear hb2;go_wp2_with fail;go_loop [17] (fun s=> ∃m:Nat,m<=k∧s= .int .i64 m) (fun s=>k-(intOf s).toNat);case atStart=>exact⟨0,by omega,rfl⟩
 case round=>
  obtain⟨m,hm,rfl⟩:=hrel;have hdec:decide ((m:Int)<us.length)=true:=by simp;omega
  have hdec':decide (m<us.length)=true:=by simp;omega
  have hmI:(m:Int)<us.length:=by omega
  by_cases hlt:m<k
  ·obtain⟨bU,oU,rfl,u0⟩:=j7 (Rd.of_own (h.ext hE01).u) (Hj.out m hlt)
   have lU:=zh u0;go_wp2_with fail
   go_round
   case rel=>exact⟨m+1,by omega,by go_num⟩
   case measure=>simp[intOf];omega
  ·have hmk:m=k:=by omega
   subst hmk;obtain⟨bU,oU,rfl,u0⟩:=j7 (Rd.of_own (h.ext hE01).u) Hu.out;have lU:=zh u0;have hC:=zaf (some ⟨bU,oU,none⟩) R cu cr us rs wa (h.ext hE01) (by omega) (by omega);go_wp2_with fail;go_at_call 63;refine hC.mono ?_;rintro e w2 ⟨U2,cu2,R2,cr2,rfl,hO,hE2⟩;obtain⟨gU,rfl,hgU1,hgU2⟩:=yD hO.u (by omega);obtain⟨gR,rfl,hgR1,hgR2⟩:=yD hO.r (by omega);have hzA:=k4.lt;replace k4:=k4.ext hE2;clear c0 l0 u0 lU hC;have hszw:=hE01.size_le;have hz4:=k4.lt;go_upto_region 8 with fail;have k9:Blk (w2.alloc (.cells #[.slice (some ⟨gU,0,none⟩) us.length cu2,.slice (some ⟨gR,0,none⟩) rs.length cr2] 34)) w2.heap.size 34 #[.slice (some ⟨gU,0,none⟩) us.length cu2,.slice (some ⟨gR,0,none⟩) rs.length cr2]:=Blk.new rfl;have hE3:=Ext.alloc (Ext.refl w2) (.cells #[.slice (some ⟨gU,0,none⟩) us.length cu2,.slice (some ⟨gR,0,none⟩) rs.length cr2] 34);generalize w2.alloc (.cells #[.slice (some ⟨gU,0,none⟩) us.length cu2,.slice (some ⟨gR,0,none⟩) rs.length cr2] 34)=W3 at*;have hO3:=hO.ext hE3;have k43:=k4.ext hE3;obtain⟨b9,hb9⟩: ∃b9,w2.heap.size=b9:=⟨_,rfl⟩;rw[hb9]at k9|-;have hnUR: ¬gU=gR:=zaa hO.u hO.r (by decide);have n1: ¬b9=gU:=by omega
   have n2: ¬b9=gR:=by omega
   obtain⟨v0,hv0⟩: ∃v0,rs[m]? =some v0:=⟨_,List.getElem?_eq_getElem (by omega)⟩;have uc:=(zz hO3.u).1 m _ (show(qe us)[m]? =some (.bool false) by simp[qe,Hu.out]);have uf:=(zz hO3.u).2;have ul:=zh uc;have rc:=(zz hO3.r).1 m _ (xV hv0);have rf:=(zz hO3.r).2;have rl:=zh rc;have c9:=k9.cell;have l9:=k9.lt;have hmR:(m:Int)<rs.length:=by omega
   clear hv0;refine jRB [gU,gR] [(true,0),(true,1),(true,2),(true,3),(true,4),(true,5),(true,6),(true,7),(false,8),(true,9),(false,10)] Tryz.mixed fun hx hy=> ?_
   repeat(first
    |refine jLB hx ?_
    |refine jLS ?_
    |(refine yP hx (fun K hK=> ?_);go_simp;(first|refine hK _ _ jB ?_|refine hK undef _ jB ?_);clear hK hx;intro hx;try refine jq ?_)
    |(refine yP hx (fun K hK=> ?_);have hcy:=Ext.cell hy;have hfy:=Ext.froz hy;go_simp;(first|refine hK _ _ jB ?_|refine hK undef _ jB ?_);clear hK hx;intro hx;try refine jq ?_))
   refine zH ?_;have e1:But [gU,gR] W3 (((W3.setCell ⟨gU,m,none⟩ (.bool true)).setCell ⟨gR,m,none⟩ (.int .u64 v)).drew):=But.drew (But.setCell (But.setCell (But.refl _ _) (by simp) _) (by simp) _)
   have q1:(((W3.setCell ⟨gU,m,none⟩ (.bool true)).setCell ⟨gR,m,none⟩ (.int .u64 v)).drew).ownsRow wa.heap.size 4 1 (.slice (some ⟨gU,0,none⟩) us.length cu2) us.length (qe (us.set m true)):=by
    have:=yf (yv hO3.u m (.bool true)) (p:=⟨gR,m,none⟩) (by simpa using hnUR) (.int .u64 v);simp only[qe,List.map_set]at this|-;exact this
   have q2:(((W3.setCell ⟨gU,m,none⟩ (.bool true)).setCell ⟨gR,m,none⟩ (.int .u64 v)).drew).ownsRow wa.heap.size 67 1 (.slice (some ⟨gR,0,none⟩) rs.length cr2) rs.length (words (rs.set m v)):=by
    have:=yv (yf hO3.r (p:=⟨gU,m,none⟩) (fun h=>hnUR h.symm) (.bool true)) m (.int .u64 v);simp only[words,List.map_set]at this|-;exact this
   clear uc uf ul rc rf rl c9 l9 hy hx;generalize((W3.setCell ⟨gU,m,none⟩ (.bool true)).setCell ⟨gR,m,none⟩ (.int .u64 v)).drew=W5 at*;replace k9:=k9.but e1 (by simp;exact⟨n1,n2⟩);replace k43:=k43.but e1 (by simp;omega);have c9:=k9.cell;have l9:=k9.lt;have c43:=k43.cell;have l43:=k43.lt;have f43:=k43.froz;have Hb9:=Lib.hid hb9;clear hb9;go_wp2_with fail;refine zmk rfl rfl rfl rfl ((k43.set_ 0 _).set_ 1 _) ⟨some ⟨gU,0,none⟩,cu2,some ⟨gR,0,none⟩,cr2,rfl,⟨?_,?_⟩,?_⟩
   ·have hn:(us.set m true).length=us.length:=List.length_set
    rw[hn];exact zu (yf (yf q1 (by simp only;omega) _) (by simp only;omega) _) hE01.size_le
   ·have hn:(rs.set m v).length=rs.length:=List.length_set
    rw[hn];exact zu (yf (yf q2 (by simp only;omega) _) (by simp only;omega) _) hE01.size_le
   ·have hEw:=(hE01.trans hE2).trans hE3
    have hb2':=Hb2.out;refine Ext.setCell (Ext.setCell (But.ext hEw e1 ?_) (by simp only;omega) _) (by simp only;omega) _;simp only[List.mem_cons,List.not_mem_nil,or_false];rintro x (rfl|rfl)<;>omega
def zml(w:World)(us:List Bool)(rs:List Int)(k:Nat)(r:Ending)(w':World):Prop:= ∃U cu R cr,r= .returned (.tuple #[.agg #[.slice U us.length cu,.slice R rs.length cr],.int .i64 0])∧RO w' w.heap.size U cu R cr (us.set k false) (rs.set k 0)∧Ext w w'
theorem zj3(U R:Option Addr)(cu cr k:Nat)(us:List Bool)(rs:List Int)(w:World)(h:RO w 0 U cu R cr us rs)(hk:zmi us rs)(hu:us[k]? =some true):
 Calls Tryz.prog 40 #[.agg #[.slice U us.length cu,.slice R rs.length cr],.int .i64 ((k:Int)+1)] w (zml w us rs k):=by
 have hul:=hk.1;have hrl:=hk.2.1;have hkl:=(List.getElem?_eq_some_iff.1 hu).1;have hul2:us.length<=32:=by omega
 have hrl2:rs.length<=32:=by omega
 have hrl3:32<=rs.length:=by omega
 have hk32:k<32:=by omega
 have Hk:=Lib.hid hk;have Hu:=Lib.hid hu;clear hk hu hul hrl;go_enter Tryz.func40,Tryz.ntmps40;go_upto_region 1 with fail;have k2:Blk ((w.alloc (.cells #[.slice U us.length cu,.slice R rs.length cr] 34)).alloc (.cells #[.slice none 0 0,.slice none 0 0] 34)) w.heap.size 34 #[.slice U us.length cu,.slice R rs.length cr]:=Blk.alloc (Blk.new rfl) _;have k4:Blk ((w.alloc (.cells #[.slice U us.length cu,.slice R rs.length cr] 34)).alloc (.cells #[.slice none 0 0,.slice none 0 0] 34)) (w.heap.size+1) 34 #[.slice none 0 0,.slice none 0 0]:=Blk.new (by simp);have hE0:Ext w ((w.alloc (.cells #[.slice U us.length cu,.slice R rs.length cr] 34)).alloc (.cells #[.slice none 0 0,.slice none 0 0] 34)):=by exact jX
 generalize(w.alloc (.cells #[.slice U us.length cu,.slice R rs.length cr] 34)).alloc (.cells #[.slice none 0 0,.slice none 0 0] 34)=W at*;have c0:=k2.cell;have l0:=k2.lt;have hV:=zmj U R cu cr k us rs W (h.ext hE0) Hk.out Hu.out;go_wp2_with fail;go_at_call 64;refine hV.mono ?_;rintro e w1 ⟨rfl,hE1⟩;have hE01:=hE0.trans hE1;replace k2:=k2.ext hE1;replace k4:=k4.ext hE1;clear c0 l0 hV hE0 hE1;have c0:=k2.cell;have l0:=k2.lt;obtain⟨wa,hwa⟩: ∃wa,wa=w1:=⟨_,rfl⟩;subst hwa;obtain⟨b2,hb2⟩: ∃b2,w.heap.size=b2:=⟨_,rfl⟩;rw[hb2]at k2 k4 c0 l0|-;have Hb2:=Lib.hid hb2;clear hb2;have hC:=zaf U R cu cr us rs wa (h.ext hE01) (by omega) (by omega);go_wp2_with fail;go_at_call 63;refine hC.mono ?_;rintro e w2 ⟨U2,cu2,R2,cr2,rfl,hO,hE2⟩;obtain⟨gU,rfl,hgU1,hgU2⟩:=yD hO.u (by omega);obtain⟨gR,rfl,hgR1,hgR2⟩:=yD hO.r (by omega);have hzA:=k4.lt;replace k4:=k4.ext hE2;clear c0 l0 hC;have hszw:=hE01.size_le;have hz4:=k4.lt;go_upto_region 5 with fail;have k9:Blk (w2.alloc (.cells #[.slice (some ⟨gU,0,none⟩) us.length cu2,.slice (some ⟨gR,0,none⟩) rs.length cr2] 34)) w2.heap.size 34 #[.slice (some ⟨gU,0,none⟩) us.length cu2,.slice (some ⟨gR,0,none⟩) rs.length cr2]:=Blk.new rfl;have hE3:=Ext.alloc (Ext.refl w2) (.cells #[.slice (some ⟨gU,0,none⟩) us.length cu2,.slice (some ⟨gR,0,none⟩) rs.length cr2] 34);generalize w2.alloc (.cells #[.slice (some ⟨gU,0,none⟩) us.length cu2,.slice (some ⟨gR,0,none⟩) rs.length cr2] 34)=W3 at*;have hO3:=hO.ext hE3;have k43:=k4.ext hE3;obtain⟨b9,hb9⟩: ∃b9,w2.heap.size=b9:=⟨_,rfl⟩;rw[hb9]at k9|-;have hnUR: ¬gU=gR:=zaa hO.u hO.r (by decide);have n1: ¬b9=gU:=by omega
 have n2: ¬b9=gR:=by omega
 obtain⟨v0,hv0⟩: ∃v0,rs[k]? =some v0:=⟨_,List.getElem?_eq_getElem (by omega)⟩;have uc:=(zz hO3.u).1 k _ (show(qe us)[k]? =some (.bool true) by simp[qe,Hu.out]);have uf:=(zz hO3.u).2;have ul:=zh uc;have rc:=(zz hO3.r).1 k _ (xV hv0);have rf:=(zz hO3.r).2;have rl:=zh rc;have c9:=k9.cell;have l9:=k9.lt;have hmU:(k:Int)<us.length:=by omega
 have hmR:(k:Int)<rs.length:=by omega
 have e3:(k:Int)+1-1=k:=by omega
 clear hv0;refine jRB [gU,gR] [(true,0),(true,1),(true,2),(true,3),(true,4),(true,5),(true,6),(true,7),(true,8),(false,9),(true,10),(false,11)] Tryz.mixed fun hx hy=> ?_
 repeat(first
  |refine jLB hx ?_
  |refine jLS ?_
  |(refine yP hx (fun K hK=> ?_);go_simp;(first|refine hK _ _ jB ?_|refine hK undef _ jB ?_);clear hK hx;intro hx;try refine jq ?_)
  |(refine yP hx (fun K hK=> ?_);have hcy:=Ext.cell hy;have hfy:=Ext.froz hy;go_simp;(first|refine hK _ _ jB ?_|refine hK undef _ jB ?_);clear hK hx;intro hx;try refine jq ?_))
 refine zH ?_;have e1:But [gU,gR] W3 (((W3.setCell ⟨gU,k,none⟩ (.bool false)).setCell ⟨gR,k,none⟩ (.int .u64 0)).drew):=But.drew (But.setCell (But.setCell (But.refl _ _) (by simp) _) (by simp) _)
 have q1:(((W3.setCell ⟨gU,k,none⟩ (.bool false)).setCell ⟨gR,k,none⟩ (.int .u64 0)).drew).ownsRow wa.heap.size 4 1 (.slice (some ⟨gU,0,none⟩) us.length cu2) us.length (qe (us.set k false)):=by
  have:=yf (yv hO3.u k (.bool false)) (p:=⟨gR,k,none⟩) hnUR (.int .u64 0);simp only[qe,List.map_set]at this|-;exact this
 have q2:(((W3.setCell ⟨gU,k,none⟩ (.bool false)).setCell ⟨gR,k,none⟩ (.int .u64 0)).drew).ownsRow wa.heap.size 67 1 (.slice (some ⟨gR,0,none⟩) rs.length cr2) rs.length (words (rs.set k 0)):=by
  have:=yv (yf hO3.r (p:=⟨gU,k,none⟩) (fun h=>hnUR h.symm) (.bool false)) k (.int .u64 0);simp only[words,List.map_set]at this|-;exact this
 clear uc uf ul rc rf rl c9 l9 hy hx;generalize((W3.setCell ⟨gU,k,none⟩ (.bool false)).setCell ⟨gR,k,none⟩ (.int .u64 0)).drew=W5 at*;replace k9:=k9.but e1 (by simp;exact⟨n1,n2⟩);replace k43:=k43.but e1 (by simp;omega);have c9:=k9.cell;have l9:=k9.lt;have c43:=k43.cell;have l43:=k43.lt;have f43:=k43.froz;have Hb9:=Lib.hid hb9;clear hb9;go_wp2_with fail;refine zj2 rfl rfl rfl ((k43.set_ 0 _).set_ 1 _) ⟨some ⟨gU,0,none⟩,cu2,some ⟨gR,0,none⟩,cr2,rfl,⟨?_,?_⟩,?_⟩
 ·have hn:(us.set k false).length=us.length:=List.length_set
  rw[hn];exact zu (yf (yf q1 (by simp only;omega) _) (by simp only;omega) _) hE01.size_le
 ·have hn:(rs.set k 0).length=rs.length:=List.length_set
  rw[hn];exact zu (yf (yf q2 (by simp only;omega) _) (by simp only;omega) _) hE01.size_le
 ·have hEw:=(hE01.trans hE2).trans hE3
  have hb2':=Hb2.out;refine Ext.setCell (Ext.setCell (But.ext hEw e1 ?_) (by simp only;omega) _) (by simp only;omega) _;simp only[List.mem_cons,List.not_mem_nil,or_false];rintro x (rfl|rfl)<;>omega
def zfk(w:World)(r:Ending)(w':World):Prop:=(∃z:Int,r= .returned (.int .i64 z))∧Ext w w'
def zmm(w:World)(r:Ending)(w':World):Prop:=(∃z:Bool,r= .returned (.bool z))∧Ext w w'
theorem zfl(A Bf:Option Addr)(a b sh m n:Nat)(w:World)(h:3<=sh∧sh<=8):
 Calls Tryz.prog 102 #[.agg #[.int .i64 sh,.slice A m a,.slice Bf n b]] w (zfk w):=by
 obtain⟨h1,h2⟩:=h;have a1:(3:Int)<=sh:=by omega
 have d1:decide ((3:Int)<=sh)=true:=by simpa using a1
 have d2:decide ((sh:Int)<=8)=true:=by simp;omega
 go_enter Tryz.func102,Tryz.ntmps102;go_wp2;go_ret;exact⟨⟨_,rfl⟩,by exact jX⟩
theorem zg6(A:Option Addr)(c:Nat)(vs:List Value)(Q:List (List Inc))(w:World)(h:BO w 0 A c vs Q)(hn:Q.length<=1000)(hm: ∀q∈Q,q.length<=10000):
 Calls Tryz.prog 59 #[.slice A Q.length c] w (zfk w):=by
 have Hm:=Lib.hid hm;clear hm;go_enter Tryz.func59,Tryz.ntmps59;go_upto_region 1 with fail;go_wp2_with fail;go_loopw [3,10] (fun u i wr=> ∃(k:Nat) (z:Int),k<=Q.length∧i= .int .i64 k∧u= .int .i64 z∧Ext w wr) (fun _ i _=>Q.length-(intOf i).toNat);case atStart=>exact⟨0,0,by omega,rfl,rfl,Ext.refl _⟩
 case round=>
  obtain⟨k,z,hk,rfl,rfl,hE⟩:=hrel;by_cases hlt:k<Q.length
  ·have hdec:decide ((k:Int)<Q.length)=true:=by simp;omega
   have hdec':decide (k<Q.length)=true:=by simp;omega
   have hkI:(k:Int)<Q.length:=by omega
   obtain⟨q,hq⟩: ∃q,Q[k]? =some q:=⟨_,List.getElem?_eq_getElem hlt⟩;obtain⟨g,P,pc,rfl,_,c1,hq0,_,lg⟩:=(h.ext hE).at_ hq;have hql:=Hm.out q (List.mem_of_getElem? hq);clear hq;go_wp2_with fail;go_loopw [3,16] (fun u i wq=> ∃(j:Nat) (z:Int),j<=q.length∧i= .int .i64 j∧u= .int .i64 z∧Ext wr wq) (fun _ i _=>q.length-(intOf i).toNat);case atStart=>exact⟨0,z,by omega,rfl,rfl,by exact jX⟩
   case round=>
    have hEk:=hE;clear hE;obtain⟨j,y,hj,rfl,rfl,hEq⟩:=hrel;by_cases hjl:j<q.length
    ·have hjec:decide ((j:Int)<q.length)=true:=by simp;omega
     have hjec':decide (j<q.length)=true:=by simp;omega
     have hjI:(j:Int)<q.length:=by omega
     obtain⟨i,hi⟩: ∃i,q[j]? =some i:=⟨_,List.getElem?_eq_getElem hjl⟩;obtain⟨bD,oD,he,c0',c1',c2,c3,c4⟩:=xo (Rd.of_own (zm hq0 hEq)) hi;subst he;have lD:=zh c0';clear hi;go_wp2_with fail;go_roundw;case rel=>exact⟨j+1,_,by omega,by go_num,rfl,by exact jX⟩
     case measure=>simp[intOf];omega
    ·have hjec:decide ((j:Int)<q.length)=false:=by simp;omega
     have hjec':decide (j<q.length)=false:=by simp;omega
     go_wp2_with fail;go_roundw;case rel=>exact⟨k+1,_,by omega,by go_num,rfl,hEk.trans hEq⟩
     case measure=>simp[intOf];omega
  ·have hdec:decide ((k:Int)<Q.length)=false:=by simp;omega
   have hdec':decide (k<Q.length)=false:=by simp;omega
   go_wp2_with fail;go_ret;exact⟨⟨_,rfl⟩,hE⟩
theorem zfm(A0 Bf A:Option Addr)(a b c:Nat)(S:Sp)(vs:List Value)(Q:List (List Inc))(w:World)(hsh:3<=S.sh∧S.sh<=8)(h:BO w 0 A c vs Q)(hn:Q.length<=1000)(hm: ∀q∈Q,q.length<=10000)(hw: ∀q∈Q,∀i∈q,0<=i.w∧i.w<=100000):
 Calls Tryz.prog 104 #[.agg #[.int .i64 S.sh,.slice A0 S.ws.length a,.slice Bf S.fs.length b],.slice A Q.length c] w (zfk w):=by
 have Hm:=Lib.hid hm;have Hw:=Lib.hid hw;clear hm hw;go_enter Tryz.func104,Tryz.ntmps104;go_upto_region 1 with fail;have k2:Blk (w.alloc (.cells #[.int .i64 S.sh,.slice A0 S.ws.length a,.slice Bf S.fs.length b] 29)) w.heap.size 29 #[.int .i64 S.sh,.slice A0 S.ws.length a,.slice Bf S.fs.length b]:=Blk.new rfl;have hE0:=Ext.alloc (Ext.refl w) (.cells #[.int .i64 S.sh,.slice A0 S.ws.length a,.slice Bf S.fs.length b] 29);generalize w.alloc (.cells #[.int .i64 S.sh,.slice A0 S.ws.length a,.slice Bf S.fs.length b] 29)=W at*;obtain⟨b2,hb2⟩: ∃b2,w.heap.size=b2:=⟨_,rfl⟩;rw[hb2]at k2|-;clear hb2;go_wp2_with fail;go_loopw [5,12] (fun u i wr=> ∃(k:Nat) (z:Int),k<=Q.length∧i= .int .i64 k∧u= .int .i64 z∧Ext W wr) (fun _ i _=>Q.length-(intOf i).toNat);case atStart=>exact⟨0,0,by omega,rfl,rfl,Ext.refl _⟩
 case round=>
  obtain⟨k,z,hk,rfl,rfl,hE⟩:=hrel;by_cases hlt:k<Q.length
  ·have hdec:decide ((k:Int)<Q.length)=true:=by simp;omega
   have hdec':decide (k<Q.length)=true:=by simp;omega
   have hkI:(k:Int)<Q.length:=by omega
   obtain⟨q,hq⟩: ∃q,Q[k]? =some q:=⟨_,List.getElem?_eq_getElem hlt⟩;obtain⟨g,P,pc,rfl,_,c1,hq0,_,lg⟩:=(h.ext (hE0.trans hE)).at_ hq;have hql:=Hm.out q (List.mem_of_getElem? hq);have Hqw:=Lib.hid (Hw.out q (List.mem_of_getElem? hq));clear hq;go_wp2_with fail;go_loopw [5,18] (fun u i wq=> ∃(j:Nat) (z:Int),j<=q.length∧i= .int .i64 j∧u= .int .i64 z∧Ext wr wq) (fun _ i _=>q.length-(intOf i).toNat);case atStart=>exact⟨0,z,by omega,rfl,rfl,by exact jX⟩
   case round=>
    have hEk:=hE;clear hE;obtain⟨j,y,hj,rfl,rfl,hEq⟩:=hrel;by_cases hjl:j<q.length
    ·have hjec:decide ((j:Int)<q.length)=true:=by simp;omega
     have hjec':decide (j<q.length)=true:=by simp;omega
     have hjI:(j:Int)<q.length:=by omega
     obtain⟨i,hi⟩: ∃i,q[j]? =some i:=⟨_,List.getElem?_eq_getElem hjl⟩;obtain⟨bD,oD,he,c0',c1',c2,c3,c4⟩:=xo (Rd.of_own (zm hq0 hEq)) hi;subst he;have lD:=zh c0';obtain⟨hw1,hw2⟩:=Hqw.out i (List.mem_of_getElem? hi);obtain⟨wd,hwd⟩: ∃wd:Nat,i.w=wd:=⟨i.w.toNat,by omega⟩;have Hwd:=Lib.hid (show wd<=100000 by omega);clear hi hw1 hw2;rw[hwd]at c4;clear hwd;have k2q:=k2.ext (hEk.trans hEq);have c2q:=k2q.cell;have l2q:=k2q.lt;go_wp2_with(first|(go_at_call 105;refine(zbg A0 Bf a b S i.q i.b i.f i.l wd _ _ hsh rfl Hwd.out).mono ?_;rintro e w1 ⟨rfl,hE1⟩));go_roundw;case rel=>exact⟨j+1,_,by omega,by go_num,rfl,by exact jX⟩
     case measure=>simp[intOf];omega
    ·have hjec:decide ((j:Int)<q.length)=false:=by simp;omega
     have hjec':decide (j<q.length)=false:=by simp;omega
     go_wp2_with fail;go_roundw;case rel=>exact⟨k+1,_,by omega,by go_num,rfl,hEk.trans hEq⟩
     case measure=>simp[intOf];omega
  ·have hdec:decide ((k:Int)<Q.length)=false:=by simp;omega
   have hdec':decide (k<Q.length)=false:=by simp;omega
   go_wp2_with fail;go_ret;exact⟨⟨_,rfl⟩,hE0.trans hE⟩
theorem zfn(A0 Bf:Option Addr)(a b:Nat)(S:Sp)(i:Inc)(v:Int)(w:World)(hsh:3<=S.sh∧S.sh<=8):
 Calls Tryz.prog 88 #[.agg #[.int .i64 S.sh,.slice A0 S.ws.length a,.slice Bf S.fs.length b],.agg #[.int .i64 i.q,.int .i64 i.b,.int .i64 i.f,.int .i64 i.l,.int .i64 i.w],.int .i64 v] w (zmm w):=by
 go_enter Tryz.func88,Tryz.ntmps88;go_upto_region 1 with fail;have hE0:Ext w ((w.alloc (.cells #[.int .i64 S.sh,.slice A0 S.ws.length a,.slice Bf S.fs.length b] 29)).alloc (.cells #[.int .i64 i.q,.int .i64 i.b,.int .i64 i.f,.int .i64 i.l,.int .i64 i.w] 144)):=by exact jX
 have k3:Blk ((w.alloc (.cells #[.int .i64 S.sh,.slice A0 S.ws.length a,.slice Bf S.fs.length b] 29)).alloc (.cells #[.int .i64 i.q,.int .i64 i.b,.int .i64 i.f,.int .i64 i.l,.int .i64 i.w] 144)) w.heap.size 29 #[.int .i64 S.sh,.slice A0 S.ws.length a,.slice Bf S.fs.length b]:=Blk.alloc (Blk.new rfl) _;have k4:Blk ((w.alloc (.cells #[.int .i64 S.sh,.slice A0 S.ws.length a,.slice Bf S.fs.length b] 29)).alloc (.cells #[.int .i64 i.q,.int .i64 i.b,.int .i64 i.f,.int .i64 i.l,.int .i64 i.w] 144)) (w.heap.size+1) 144 #[.int .i64 i.q,.int .i64 i.b,.int .i64 i.f,.int .i64 i.l,.int .i64 i.w]:=Blk.new (by simp);generalize(w.alloc (.cells #[.int .i64 S.sh,.slice A0 S.ws.length a,.slice Bf S.fs.length b] 29)).alloc (.cells #[.int .i64 i.q,.int .i64 i.b,.int .i64 i.f,.int .i64 i.l,.int .i64 i.w] 144)=W at*;have c3:=k3.cell;have l3:=k3.lt;have c4:=k4.cell;have l4:=k4.lt;by_cases hv:v=0
 ·subst hv
  refine jRE [(true,0),(true,1),(true,2),(true,3),(true,4),(true,5),(true,6),(false,7),(true,8),(true,9),(true,10),(true,11)] Tryz.mixed fun hx=> ?_
  repeat(first
   |refine jLE hx ?_
   |refine jLS ?_
   |(refine yo hx (fun K hK=> ?_);go_simp;go_at_call 102;refine(zfl A0 Bf a b S.sh _ _ _ hsh).mono ?_;rintro e w1 ⟨⟨z,rfl⟩,hE1⟩;refine hK _ _ (hE1) ?_;clear hK hx;intro hx;refine jq ?_)
   |(refine yo hx (fun K hK=> ?_);go_simp;(first|refine hK _ _ jX ?_|refine hK undef _ jX ?_);clear hK hx;intro hx;try refine jq ?_))
  refine zH ?_;go_wp2_with fail;go_ret;exact⟨⟨_,rfl⟩,by exact jX⟩
 ·have hv':(v==0)=false:=by simpa using hv
  clear hv;refine jRE [(true,0),(true,1),(true,2),(true,3),(true,4),(true,5),(true,6),(false,7),(true,8),(true,9),(true,10),(true,11)] Tryz.mixed fun hx=> ?_
  repeat(first
   |refine jLE hx ?_
   |refine jLS ?_
   |(refine yo hx (fun K hK=> ?_);go_simp;go_at_call 102;refine(zfl A0 Bf a b S.sh _ _ _ hsh).mono ?_;rintro e w1 ⟨⟨z,rfl⟩,hE1⟩;refine hK _ _ (hE1) ?_;clear hK hx;intro hx;refine jq ?_)
   |(refine yo hx (fun K hK=> ?_);go_simp;(first|refine hK _ _ jX ?_|refine hK undef _ jX ?_);clear hK hx;intro hx;try refine jq ?_))
  refine zH ?_;go_wp2_with fail;go_ret;exact⟨⟨_,rfl⟩,by exact jX⟩
def qI:ByteArray:=⟨#[115,101,109,105,115,112,97,99,101]⟩
def xF:ByteArray:=⟨#[97,112,112,101,108]⟩
def xG:ByteArray:=⟨#[102,105,120,101,100]⟩
def xH:ByteArray:=⟨#[111,108,100,101,114,45,102,105,114,115,116]⟩
def sXx:ByteArray:=⟨#[120,120]⟩
def xJ:ByteArray:=⟨#[120,120,49,48,48]⟩
def zmn(p:Int):Nat:=match Ieee.double.div (FloatKind.f64.nearest p) 4636737291354636288 with|some r=>r|none=>0
theorem zpd:(List.range 101).all (fun k=>(Ieee.double.div (FloatKind.f64.nearest (k:Int)) 4636737291354636288).isSome)=true:=by decide+kernel
theorem zmo{p:Int}(h0:0<=p)(h1:p<=100):Ieee.double.div (FloatKind.f64.nearest p) 4636737291354636288=some (zmn p):=by
 obtain⟨k,rfl⟩: ∃k:Nat,p=(k:Int):=⟨p.toNat,by omega⟩;have h:=zpd;simp only[List.all_eq_true,List.mem_range]at h;have:=h k (by omega);obtain⟨r,hr⟩:=Option.isSome_iff_exists.1 this;unfold zmn;rw[hr]
def yQ(p:Int):Int:=if 0<=p∧p<=100 then 0 else 1
def xM(p:Int):Nat:=if 0<=p∧p<=100 then zmn p else 0
theorem zS(p:Int)(w:World):Calls Tryz.prog 49 #[.int .i64 p] w fun e w'=>e= .returned (.tuple #[.float .f64 (xM p),.int .i64 (yQ p)])∧w=w':=by
 by_cases h0:p<0
 ·have h1:decide (p<0)=true:=by simpa using h0
  rw[show xM p=0 by unfold xM;rw[if_neg (by omega)],show yQ p=1 by unfold yQ;rw[if_neg (by omega)]];clear h0;go_enter Tryz.func49,Tryz.ntmps49;go_wp2
  go_ret2
  exact⟨rfl,rfl⟩
 ·have h1:decide (p<0)=false:=by simpa using h0
  by_cases h2:100<p
  ·have h3:decide (100<p)=true:=by simpa using h2
   rw[show xM p=0 by unfold xM;rw[if_neg (by omega)],show yQ p=1 by unfold yQ;rw[if_neg (by omega)]];clear h0 h2;go_enter Tryz.func49,Tryz.ntmps49;go_wp2
   go_ret2
   exact⟨rfl,rfl⟩
  ·have h3:decide (100<p)=false:=by simpa using h2
   have hd:(binOp .quo 46 (.float .f64 (floatOfInt .f64 p)) (.float .f64 4636737291354636288)).run Tryz.prog w= .ok (.float .f64 (zmn p)) w:=run_float_arith w .quo 39 .f64 _ _ _ (zmo (by omega) (by omega));rw[show xM p=zmn p by unfold xM;rw[if_pos (by omega)],show yQ p=0 by unfold yQ;rw[if_pos (by omega)]];clear h0 h2;go_enter Tryz.func49,Tryz.ntmps49;go_wp2
   go_ret2
   exact⟨rfl,rfl⟩
def zc4(r:Nat×Int×Int×Int):List Value:= [.float .f64 r.1,.int .i64 r.2.1,.int .i64 r.2.2.1,.int .i64 r.2.2.2]
def y2:List (Nat×Int×Int×Int) ->List Value
 | []=> []
 |r::l=>zc4 r++y2 l
def xN(s:ByteArray)(x:Nat):Option (List (Nat×Int×Int×Int)×Int):=
 if s=qI then some ([(0,0,0,0)],1)
 else if s=xF then some ([(0,0,0,1),(0,0,0,1)],8)
 else if s=xG then some ([(x,1,0,1),(0,0,0,1)],8)
 else if s=xH then some ([(x,0,1,0)],0)
 else if s=sXx then some ([(x,0,1,1),(x,0,1,1)],0)
 else if s=xJ then some ([(x,0,1,1),(x,0,1,2),(0,0,0,2)],8)
 else none
def yY(s:ByteArray)(p:Int):ByteArray×List (Nat×Int×Int×Int)×Int×Int:=
 match xN s (xM p)with
 |none=>(⟨#[]⟩,[],0,7)
 |some (rs,full)=>if yQ p=0∧p≠0 then(s,rs,full,0)else(⟨#[]⟩,[],0,6)
def km(w:World)(g:ByteArray×List (Nat×Int×Int×Int)×Int×Int)(r:Ending)(w':World):Prop:=
 ∃A c,r= .returned (.tuple #[.agg #[.string g.1,.slice A g.2.1.length c,.int .i64 g.2.2.1],.int .i64 g.2.2.2])∧w'.ownsRow w.heap.size 79 4 (.slice A g.2.1.length c) g.2.1.length (y2 g.2.1)∧Ext w w'
theorem zqx{a b:ByteArray}(h:a≠b):(a==b)=false:=by
 cases e:(a==b)with
 |true=>exact absurd ((MapKept.bytes_beq a b).1 e) h
 |false=>rfl
theorem zfo(x:Nat)(w:World):(callFunc 71 #[.float .f64 x]).run Tryz.prog w= .ok (.value (.int .u64 x)) w:=by
 rw[run_callFunc_extern (e:=Extern.MathFloatBits.float64bits) (fn:=Tryz.f71) Tryz.func71 (by kernel_rfl) (by kernel_rfl) (by kernel_rfl) (by kernel_rfl)];rfl
theorem zfp: ∀(l:List (Nat×Int×Int×Int)) (k:Nat) (r:Nat×Int×Int×Int),l[k]? =some r->(y2 l)[k*4]? =some (.float .f64 r.1)∧(y2 l)[k*4+1]? =some (.int .i64 r.2.1)∧(y2 l)[k*4+2]? =some (.int .i64 r.2.2.1)∧(y2 l)[k*4+3]? =some (.int .i64 r.2.2.2)
 | [],k,r,h=>by simp at h
 |b::l,0,r,h=>by
  simp only[List.getElem?_cons_zero,Option.some.injEq]at h;subst h;exact⟨rfl,rfl,rfl,rfl⟩
 |b::l,k+1,r,h=>by
  simp only[List.getElem?_cons_succ]at h;obtain⟨h0,h1,h2,h3⟩:=zfp l k r h
  have e: ∀j,(y2 (b::l))[(k+1)*4+j]? =(y2 l)[k*4+j]? :=fun j=>by
   rw[y2,List.getElem?_append_right (by simp[zc4];omega)];congr 1;simp[zc4];omega
  exact⟨by rw[<-h0];exact e 0,by rw[<-h1];exact e 1,by rw[<-h2];exact e 2,by rw[<-h3];exact e 3⟩
theorem qN{w:World}{A:Option Addr}{n:Nat}{l:List (Nat×Int×Int×Int)}(h:Rd w A n 4 (y2 l)){k:Nat}{r:Nat×Int×Int×Int}(hk:l[k]? =some r)(hn:k<n):
 ∃b o,A=some ⟨b,o,none⟩∧w.cell? ⟨b,o+k*4,none⟩=some (.float .f64 r.1)∧w.cell? ⟨b,o+k*4+1,none⟩=some (.int .i64 r.2.1)∧w.cell? ⟨b,o+k*4+2,none⟩=some (.int .i64 r.2.2.1)∧w.cell? ⟨b,o+k*4+3,none⟩=some (.int .i64 r.2.2.2):=by
 obtain⟨b,o,rfl,hc⟩:=h.2 (by omega);obtain⟨h0,h1,h2,h3⟩:=zfp l k r hk;exact⟨b,o,rfl,hc _ _ h0,hc _ _ h1,hc _ _ h2,hc _ _ h3⟩
theorem vH(W:World)(b base:Nat)(cs:List Value)(n:Nat)(hb:b=W.heap.size)(hbase:base<=W.heap.size)(hn:n<=1000000)(h:cs.length=n*4):(W.alloc (.cells cs.toArray 79)).ownsRow base 79 4 (.slice (some ⟨b,0,none⟩) n n) n cs:=
 qJ hb hbase hn h
theorem zmp(p:Int)(w:World)(he:yQ p=0)(hp0:p≠0):Calls Tryz.prog 22 #[.string qI,.int .i64 p] w fun r w'=>km w (qI,[(0,0,0,0)],1,0) r w':=by
 have hp1: ¬p<1:=by
  unfold yQ at he;split at he
  ·omega
  ·cases he
 have b2:decide (p<1)=false:=by simpa using hp1
 clear hp1 hp0;simp only[qI];go_enter Tryz.func22,Tryz.ntmps22;go_wp2_with(first|(go_at_call 49;refine(zS _ _).mono ?_;rintro e w1 ⟨rfl,rfl⟩));refine bodyPost_ret (v:= .tuple #[.agg #[.string qI,.slice (some ⟨w.heap.size+1+1,0,none⟩) 1 1,.int .i64 1],.int .i64 0]) (by simp[results,Tryz.results22,go_sem,qI]) rfl ⟨_,_,rfl,?_,by exact jX⟩;refine vH _ _ _ (y2 [(0,0,0,0)]) _ ?_ ?_ ?_ ?_
 ·simp
 ·simp;omega
 ·simp
 ·rfl
theorem zj4(p:Int)(w:World)(hb: ¬(yQ p=0∧p≠0)):Calls Tryz.prog 22 #[.string qI,.int .i64 p] w fun r w'=>km w (⟨#[]⟩,[],0,6) r w':=by
 simp only[qI];by_cases he:yQ p=0
 ·have hp0:p=0:=by
   rcases Classical.em (p=0)with h|h
   ·exact h
   ·exact absurd ⟨he,h⟩ hb
  subst hp0;clear hb;go_enter Tryz.func22,Tryz.ntmps22;go_wp2_with(first|(go_at_call 49;refine(zS _ _).mono ?_;rintro e w1 ⟨rfl,rfl⟩));refine bodyPost_ret (v:= .tuple #[.agg #[.string ⟨#[]⟩,.slice none 0 0,.int .i64 0],.int .i64 6]) (by simp[results,Tryz.results22,go_sem]) rfl ⟨none,0,rfl,zP _ _ _ _,by exact jX⟩
 ·have b1:(yQ p !=0)=true:=by simpa using he
  clear he hb;go_enter Tryz.func22,Tryz.ntmps22;go_wp2_with(first|(go_at_call 49;refine(zS _ _).mono ?_;rintro e w1 ⟨rfl,rfl⟩));refine bodyPost_ret (v:= .tuple #[.agg #[.string ⟨#[]⟩,.slice none 0 0,.int .i64 0],.int .i64 6]) (by simp[results,Tryz.results22,go_sem]) rfl ⟨none,0,rfl,zP _ _ _ _,by exact jX⟩
theorem zmq(p:Int)(w:World)(he:yQ p=0)(hp0:p≠0):Calls Tryz.prog 22 #[.string xF,.int .i64 p] w fun r w'=>km w (xF,[(0,0,0,1),(0,0,0,1)],8,0) r w':=by
 have hp1: ¬p<1:=by
  unfold yQ at he;split at he
  ·omega
  ·cases he
 have b2:decide (p<1)=false:=by simpa using hp1
 clear hp1 hp0;simp only[xF];go_enter Tryz.func22,Tryz.ntmps22;go_wp2_with(first|(go_at_call 49;refine(zS _ _).mono ?_;rintro e w1 ⟨rfl,rfl⟩));refine bodyPost_ret (v:= .tuple #[.agg #[.string xF,.slice (some ⟨w.heap.size+1+1,0,none⟩) 2 2,.int .i64 8],.int .i64 0]) (by simp[results,Tryz.results22,go_sem,xF]) rfl ⟨_,_,rfl,?_,by exact jX⟩;refine vH _ _ _ (y2 [(0,0,0,1),(0,0,0,1)]) _ ?_ ?_ ?_ ?_
 ·simp
 ·simp;omega
 ·simp
 ·rfl
theorem zj5(p:Int)(w:World)(hb: ¬(yQ p=0∧p≠0)):Calls Tryz.prog 22 #[.string xF,.int .i64 p] w fun r w'=>km w (⟨#[]⟩,[],0,6) r w':=by
 simp only[xF];by_cases he:yQ p=0
 ·have hp0:p=0:=by
   rcases Classical.em (p=0)with h|h
   ·exact h
   ·exact absurd ⟨he,h⟩ hb
  subst hp0;clear hb;go_enter Tryz.func22,Tryz.ntmps22;go_wp2_with(first|(go_at_call 49;refine(zS _ _).mono ?_;rintro e w1 ⟨rfl,rfl⟩));refine bodyPost_ret (v:= .tuple #[.agg #[.string ⟨#[]⟩,.slice none 0 0,.int .i64 0],.int .i64 6]) (by simp[results,Tryz.results22,go_sem]) rfl ⟨none,0,rfl,zP _ _ _ _,by exact jX⟩
 ·have b1:(yQ p !=0)=true:=by simpa using he
  clear he hb;go_enter Tryz.func22,Tryz.ntmps22;go_wp2_with(first|(go_at_call 49;refine(zS _ _).mono ?_;rintro e w1 ⟨rfl,rfl⟩));refine bodyPost_ret (v:= .tuple #[.agg #[.string ⟨#[]⟩,.slice none 0 0,.int .i64 0],.int .i64 6]) (by simp[results,Tryz.results22,go_sem]) rfl ⟨none,0,rfl,zP _ _ _ _,by exact jX⟩
theorem zmr(p:Int)(w:World)(he:yQ p=0)(hp0:p≠0):Calls Tryz.prog 22 #[.string xG,.int .i64 p] w fun r w'=>km w (xG,[(xM p,1,0,1),(0,0,0,1)],8,0) r w':=by
 have hp1: ¬p<1:=by
  unfold yQ at he;split at he
  ·omega
  ·cases he
 have b2:decide (p<1)=false:=by simpa using hp1
 clear hp1 hp0;simp only[xG];go_enter Tryz.func22,Tryz.ntmps22;go_wp2_with(first|(go_at_call 49;refine(zS _ _).mono ?_;rintro e w1 ⟨rfl,rfl⟩));refine bodyPost_ret (v:= .tuple #[.agg #[.string xG,.slice (some ⟨w.heap.size+1+1,0,none⟩) 2 2,.int .i64 8],.int .i64 0]) (by simp[results,Tryz.results22,go_sem,xG]) rfl ⟨_,_,rfl,?_,by exact jX⟩;refine vH _ _ _ (y2 [(xM p,1,0,1),(0,0,0,1)]) _ ?_ ?_ ?_ ?_
 ·simp
 ·simp;omega
 ·simp
 ·rfl
theorem zj6(p:Int)(w:World)(hb: ¬(yQ p=0∧p≠0)):Calls Tryz.prog 22 #[.string xG,.int .i64 p] w fun r w'=>km w (⟨#[]⟩,[],0,6) r w':=by
 simp only[xG];by_cases he:yQ p=0
 ·have hp0:p=0:=by
   rcases Classical.em (p=0)with h|h
   ·exact h
   ·exact absurd ⟨he,h⟩ hb
  subst hp0;clear hb;go_enter Tryz.func22,Tryz.ntmps22;go_wp2_with(first|(go_at_call 49;refine(zS _ _).mono ?_;rintro e w1 ⟨rfl,rfl⟩));refine bodyPost_ret (v:= .tuple #[.agg #[.string ⟨#[]⟩,.slice none 0 0,.int .i64 0],.int .i64 6]) (by simp[results,Tryz.results22,go_sem]) rfl ⟨none,0,rfl,zP _ _ _ _,by exact jX⟩
 ·have b1:(yQ p !=0)=true:=by simpa using he
  clear he hb;go_enter Tryz.func22,Tryz.ntmps22;go_wp2_with(first|(go_at_call 49;refine(zS _ _).mono ?_;rintro e w1 ⟨rfl,rfl⟩));refine bodyPost_ret (v:= .tuple #[.agg #[.string ⟨#[]⟩,.slice none 0 0,.int .i64 0],.int .i64 6]) (by simp[results,Tryz.results22,go_sem]) rfl ⟨none,0,rfl,zP _ _ _ _,by exact jX⟩
theorem zms(p:Int)(w:World)(he:yQ p=0)(hp0:p≠0):Calls Tryz.prog 22 #[.string xH,.int .i64 p] w fun r w'=>km w (xH,[(xM p,0,1,0)],0,0) r w':=by
 have hp1: ¬p<1:=by
  unfold yQ at he;split at he
  ·omega
  ·cases he
 have b2:decide (p<1)=false:=by simpa using hp1
 clear hp1 hp0;simp only[xH];go_enter Tryz.func22,Tryz.ntmps22;go_wp2_with(first|(go_at_call 49;refine(zS _ _).mono ?_;rintro e w1 ⟨rfl,rfl⟩));refine bodyPost_ret (v:= .tuple #[.agg #[.string xH,.slice (some ⟨w.heap.size+1+1,0,none⟩) 1 1,.int .i64 0],.int .i64 0]) (by simp[results,Tryz.results22,go_sem,xH]) rfl ⟨_,_,rfl,?_,by exact jX⟩;refine vH _ _ _ (y2 [(xM p,0,1,0)]) _ ?_ ?_ ?_ ?_
 ·simp
 ·simp;omega
 ·simp
 ·rfl
theorem zj7(p:Int)(w:World)(hb: ¬(yQ p=0∧p≠0)):Calls Tryz.prog 22 #[.string xH,.int .i64 p] w fun r w'=>km w (⟨#[]⟩,[],0,6) r w':=by
 simp only[xH];by_cases he:yQ p=0
 ·have hp0:p=0:=by
   rcases Classical.em (p=0)with h|h
   ·exact h
   ·exact absurd ⟨he,h⟩ hb
  subst hp0;clear hb;go_enter Tryz.func22,Tryz.ntmps22;go_wp2_with(first|(go_at_call 49;refine(zS _ _).mono ?_;rintro e w1 ⟨rfl,rfl⟩));refine bodyPost_ret (v:= .tuple #[.agg #[.string ⟨#[]⟩,.slice none 0 0,.int .i64 0],.int .i64 6]) (by simp[results,Tryz.results22,go_sem]) rfl ⟨none,0,rfl,zP _ _ _ _,by exact jX⟩
 ·have b1:(yQ p !=0)=true:=by simpa using he
  clear he hb;go_enter Tryz.func22,Tryz.ntmps22;go_wp2_with(first|(go_at_call 49;refine(zS _ _).mono ?_;rintro e w1 ⟨rfl,rfl⟩));refine bodyPost_ret (v:= .tuple #[.agg #[.string ⟨#[]⟩,.slice none 0 0,.int .i64 0],.int .i64 6]) (by simp[results,Tryz.results22,go_sem]) rfl ⟨none,0,rfl,zP _ _ _ _,by exact jX⟩
theorem zmt(p:Int)(w:World)(he:yQ p=0)(hp0:p≠0):Calls Tryz.prog 22 #[.string sXx,.int .i64 p] w fun r w'=>km w (sXx,[(xM p,0,1,1),(xM p,0,1,1)],0,0) r w':=by
 have hp1: ¬p<1:=by
  unfold yQ at he;split at he
  ·omega
  ·cases he
 have b2:decide (p<1)=false:=by simpa using hp1
 clear hp1 hp0;simp only[sXx];go_enter Tryz.func22,Tryz.ntmps22;go_wp2_with(first|(go_at_call 49;refine(zS _ _).mono ?_;rintro e w1 ⟨rfl,rfl⟩));refine bodyPost_ret (v:= .tuple #[.agg #[.string sXx,.slice (some ⟨w.heap.size+1+1,0,none⟩) 2 2,.int .i64 0],.int .i64 0]) (by simp[results,Tryz.results22,go_sem,sXx]) rfl ⟨_,_,rfl,?_,by exact jX⟩;refine vH _ _ _ (y2 [(xM p,0,1,1),(xM p,0,1,1)]) _ ?_ ?_ ?_ ?_
 ·simp
 ·simp;omega
 ·simp
 ·rfl
theorem zj8(p:Int)(w:World)(hb: ¬(yQ p=0∧p≠0)):Calls Tryz.prog 22 #[.string sXx,.int .i64 p] w fun r w'=>km w (⟨#[]⟩,[],0,6) r w':=by
 simp only[sXx];by_cases he:yQ p=0
 ·have hp0:p=0:=by
   rcases Classical.em (p=0)with h|h
   ·exact h
   ·exact absurd ⟨he,h⟩ hb
  subst hp0;clear hb;go_enter Tryz.func22,Tryz.ntmps22;go_wp2_with(first|(go_at_call 49;refine(zS _ _).mono ?_;rintro e w1 ⟨rfl,rfl⟩));refine bodyPost_ret (v:= .tuple #[.agg #[.string ⟨#[]⟩,.slice none 0 0,.int .i64 0],.int .i64 6]) (by simp[results,Tryz.results22,go_sem]) rfl ⟨none,0,rfl,zP _ _ _ _,by exact jX⟩
 ·have b1:(yQ p !=0)=true:=by simpa using he
  clear he hb;go_enter Tryz.func22,Tryz.ntmps22;go_wp2_with(first|(go_at_call 49;refine(zS _ _).mono ?_;rintro e w1 ⟨rfl,rfl⟩));refine bodyPost_ret (v:= .tuple #[.agg #[.string ⟨#[]⟩,.slice none 0 0,.int .i64 0],.int .i64 6]) (by simp[results,Tryz.results22,go_sem]) rfl ⟨none,0,rfl,zP _ _ _ _,by exact jX⟩
theorem zmu(p:Int)(w:World)(he:yQ p=0)(hp0:p≠0):Calls Tryz.prog 22 #[.string xJ,.int .i64 p] w fun r w'=>km w (xJ,[(xM p,0,1,1),(xM p,0,1,2),(0,0,0,2)],8,0) r w':=by
 have hp1: ¬p<1:=by
  unfold yQ at he;split at he
  ·omega
  ·cases he
 have b2:decide (p<1)=false:=by simpa using hp1
 clear hp1 hp0;simp only[xJ];go_enter Tryz.func22,Tryz.ntmps22;go_wp2_with(first|(go_at_call 49;refine(zS _ _).mono ?_;rintro e w1 ⟨rfl,rfl⟩));refine bodyPost_ret (v:= .tuple #[.agg #[.string xJ,.slice (some ⟨w.heap.size+1+1,0,none⟩) 3 3,.int .i64 8],.int .i64 0]) (by simp[results,Tryz.results22,go_sem,xJ]) rfl ⟨_,_,rfl,?_,by exact jX⟩;refine vH _ _ _ (y2 [(xM p,0,1,1),(xM p,0,1,2),(0,0,0,2)]) _ ?_ ?_ ?_ ?_
 ·simp
 ·simp;omega
 ·simp
 ·rfl
theorem zj9(p:Int)(w:World)(hb: ¬(yQ p=0∧p≠0)):Calls Tryz.prog 22 #[.string xJ,.int .i64 p] w fun r w'=>km w (⟨#[]⟩,[],0,6) r w':=by
 simp only[xJ];by_cases he:yQ p=0
 ·have hp0:p=0:=by
   rcases Classical.em (p=0)with h|h
   ·exact h
   ·exact absurd ⟨he,h⟩ hb
  subst hp0;clear hb;go_enter Tryz.func22,Tryz.ntmps22;go_wp2_with(first|(go_at_call 49;refine(zS _ _).mono ?_;rintro e w1 ⟨rfl,rfl⟩));refine bodyPost_ret (v:= .tuple #[.agg #[.string ⟨#[]⟩,.slice none 0 0,.int .i64 0],.int .i64 6]) (by simp[results,Tryz.results22,go_sem]) rfl ⟨none,0,rfl,zP _ _ _ _,by exact jX⟩
 ·have b1:(yQ p !=0)=true:=by simpa using he
  clear he hb;go_enter Tryz.func22,Tryz.ntmps22;go_wp2_with(first|(go_at_call 49;refine(zS _ _).mono ?_;rintro e w1 ⟨rfl,rfl⟩));refine bodyPost_ret (v:= .tuple #[.agg #[.string ⟨#[]⟩,.slice none 0 0,.int .i64 0],.int .i64 6]) (by simp[results,Tryz.results22,go_sem]) rfl ⟨none,0,rfl,zP _ _ _ _,by exact jX⟩
theorem j8{s k:ByteArray}{l:List UInt8}(hl:k.toList=l)(h:s≠k):(s.toList==l)=false:=by
 subst hl;rw[<-beq_toListBytes];exact zqx h
theorem zc5(s:ByteArray)(p:Int)(w:World)(h1:s≠qI)(h2:s≠xF)(h3:s≠xG)(h4:s≠xH)(h5:s≠sXx)(h6:s≠xJ):Calls Tryz.prog 22 #[.string s,.int .i64 p] w fun r w'=>km w (⟨#[]⟩,[],0,7) r w':=by
 have g1:(s.toList== [115,101,109,105,115,112,97,99,101])=false:=j8 (by rw[ByteArray.toList_eq];rfl) h1;have g2:(s.toList== [97,112,112,101,108])=false:=j8 (by rw[ByteArray.toList_eq];rfl) h2;have g3:(s.toList== [102,105,120,101,100])=false:=j8 (by rw[ByteArray.toList_eq];rfl) h3;have g4:(s.toList== [111,108,100,101,114,45,102,105,114,115,116])=false:=j8 (by rw[ByteArray.toList_eq];rfl) h4;have g5:(s.toList== [120,120])=false:=j8 (by rw[ByteArray.toList_eq];rfl) h5;have g6:(s.toList== [120,120,49,48,48])=false:=j8 (by rw[ByteArray.toList_eq];rfl) h6;clear h1 h2 h3 h4 h5 h6;by_cases he:yQ p=0
 ·have b1:(yQ p !=0)=false:=by simpa using he
  clear he;go_enter Tryz.func22,Tryz.ntmps22;go_wp2_with(first|(go_at_call 49;refine(zS _ _).mono ?_;rintro e w1 ⟨rfl,rfl⟩));refine bodyPost_ret (v:= .tuple #[.agg #[.string ⟨#[]⟩,.slice none 0 0,.int .i64 0],.int .i64 7]) (by simp[results,Tryz.results22,go_sem]) rfl ⟨none,0,rfl,zP _ _ _ _,by exact jX⟩
 ·have b1:(yQ p !=0)=true:=by simpa using he
  clear he;go_enter Tryz.func22,Tryz.ntmps22;go_wp2_with(first|(go_at_call 49;refine(zS _ _).mono ?_;rintro e w1 ⟨rfl,rfl⟩));refine bodyPost_ret (v:= .tuple #[.agg #[.string ⟨#[]⟩,.slice none 0 0,.int .i64 0],.int .i64 7]) (by simp[results,Tryz.results22,go_sem]) rfl ⟨none,0,rfl,zP _ _ _ _,by exact jX⟩
theorem yU(s:ByteArray)(p:Int)(w:World):Calls Tryz.prog 22 #[.string s,.int .i64 p] w fun r w'=>km w (yY s p) r w':=by
 by_cases hb:yQ p=0∧p≠0
 ·by_cases h1:s=qI
  ·subst h1
   rw[show yY qI p=(qI,[(0,0,0,0)],1,0) by
    unfold yY xN;rw[if_pos rfl];simp only;rw[if_pos hb]]
   exact zmp p w hb.1 hb.2
  by_cases h2:s=xF
  ·subst h2
   rw[show yY xF p=(xF,[(0,0,0,1),(0,0,0,1)],8,0) by
    unfold yY xN;rw[if_neg (by decide),if_pos rfl];simp only;rw[if_pos hb]]
   exact zmq p w hb.1 hb.2
  by_cases h3:s=xG
  ·subst h3
   rw[show yY xG p=(xG,[(xM p,1,0,1),(0,0,0,1)],8,0) by
    unfold yY xN;rw[if_neg (by decide),if_neg (by decide),if_pos rfl];simp only;rw[if_pos hb]]
   exact zmr p w hb.1 hb.2
  by_cases h4:s=xH
  ·subst h4
   rw[show yY xH p=(xH,[(xM p,0,1,0)],0,0) by
    unfold yY xN;rw[if_neg (by decide),if_neg (by decide),if_neg (by decide),if_pos rfl];simp only;rw[if_pos hb]]
   exact zms p w hb.1 hb.2
  by_cases h5:s=sXx
  ·subst h5
   rw[show yY sXx p=(sXx,[(xM p,0,1,1),(xM p,0,1,1)],0,0) by
    unfold yY xN;rw[if_neg (by decide),if_neg (by decide),if_neg (by decide),if_neg (by decide),if_pos rfl];simp only;rw[if_pos hb]]
   exact zmt p w hb.1 hb.2
  by_cases h6:s=xJ
  ·subst h6
   rw[show yY xJ p=(xJ,[(xM p,0,1,1),(xM p,0,1,2),(0,0,0,2)],8,0) by
    unfold yY xN;rw[if_neg (by decide),if_neg (by decide),if_neg (by decide),if_neg (by decide),if_neg (by decide),if_pos rfl];simp only;rw[if_pos hb]]
   exact zmu p w hb.1 hb.2
  rw[show yY s p=(⟨#[]⟩,[],0,7) by
   unfold yY xN;rw[if_neg h1,if_neg h2,if_neg h3,if_neg h4,if_neg h5,if_neg h6]]
  exact zc5 s p w h1 h2 h3 h4 h5 h6
 ·by_cases h1:s=qI
  ·subst h1
   rw[show yY qI p=(⟨#[]⟩,[],0,6) by
    unfold yY xN;rw[if_pos rfl];simp only;rw[if_neg hb]]
   exact zj4 p w hb
  by_cases h2:s=xF
  ·subst h2
   rw[show yY xF p=(⟨#[]⟩,[],0,6) by
    unfold yY xN;rw[if_neg (by decide),if_pos rfl];simp only;rw[if_neg hb]]
   exact zj5 p w hb
  by_cases h3:s=xG
  ·subst h3
   rw[show yY xG p=(⟨#[]⟩,[],0,6) by
    unfold yY xN;rw[if_neg (by decide),if_neg (by decide),if_pos rfl];simp only;rw[if_neg hb]]
   exact zj6 p w hb
  by_cases h4:s=xH
  ·subst h4
   rw[show yY xH p=(⟨#[]⟩,[],0,6) by
    unfold yY xN;rw[if_neg (by decide),if_neg (by decide),if_neg (by decide),if_pos rfl];simp only;rw[if_neg hb]]
   exact zj7 p w hb
  by_cases h5:s=sXx
  ·subst h5
   rw[show yY sXx p=(⟨#[]⟩,[],0,6) by
    unfold yY xN;rw[if_neg (by decide),if_neg (by decide),if_neg (by decide),if_neg (by decide),if_pos rfl];simp only;rw[if_neg hb]]
   exact zj8 p w hb
  by_cases h6:s=xJ
  ·subst h6
   rw[show yY xJ p=(⟨#[]⟩,[],0,6) by
    unfold yY xN;rw[if_neg (by decide),if_neg (by decide),if_neg (by decide),if_neg (by decide),if_neg (by decide),if_pos rfl];simp only;rw[if_neg hb]]
   exact zj9 p w hb
  rw[show yY s p=(⟨#[]⟩,[],0,7) by
   unfold yY xN;rw[if_neg h1,if_neg h2,if_neg h3,if_neg h4,if_neg h5,if_neg h6]]
  exact zc5 s p w h1 h2 h3 h4 h5 h6
def okX(x:Nat):Bool:=x==0||(Ieee.double.order x 0==some .gt&&(Ieee.double.order x 4607182418800017408==some .lt||Ieee.double.order x 4607182418800017408==some .eq))
theorem zg7:(List.range 101).all (fun k=>okX (xM (k:Int)))=true:=by decide+kernel
theorem zmv{k:Nat}(h:k<=100):okX (xM (k:Int))=true:=by
 have h1:=zg7;simp only[List.all_eq_true,List.mem_range]at h1;exact h1 k (by omega)
theorem qV(x:Nat)(w:World)(h:okX x=true):Calls Tryz.prog 52 #[.float .f64 x] w fun e w'=>e= .returned (.bool true)∧w'=w:=by
 have hbits:=fun y W=>zfo y W
 unfold okX at h;by_cases hx:x=0
 ·subst hx
  go_enter Tryz.func52,Tryz.ntmps52;go_wp2;go_ret;exact⟨rfl,rfl⟩
 have b0:(x==0)=false:=by simpa using hx
 simp only[b0,Bool.false_or,Bool.and_eq_true,Bool.or_eq_true,beq_iff_eq]at h;obtain⟨g1,g2⟩:=h;have g1:FloatKind.f64.format.order x 0=some .gt:=g1;rcases g2 with g2|g2
 ·have g2:FloatKind.f64.format.order x 4607182418800017408=some .lt:=g2
  go_enter Tryz.func52,Tryz.ntmps52;go_wp2;go_ret;exact⟨rfl,rfl⟩
 ·have g2:FloatKind.f64.format.order x 4607182418800017408=some .eq:=g2
  go_enter Tryz.func52,Tryz.ntmps52;go_wp2;go_ret;exact⟨rfl,rfl⟩
def okC(k:Nat)(b:UInt8):Bool:=(decide (97<=b.toNat)&&decide (b.toNat<=122))||(k !=0&&(b.toNat==45||(decide (48<=b.toNat)&&decide (b.toNat<=57))))
def qF(s:ByteArray):Prop:=1<=s.size∧s.size<=16∧∀k (h:k<s.size),okC k s[k]=true
theorem zag(s:ByteArray)(w:World)(h:qF s):Calls Tryz.prog 51 #[.string s] w fun e w'=>e= .returned (.bool true)∧w'=w:=by
 obtain⟨h1,h2,h3⟩:=h;have c1:decide (1<=s.size)=true:=by simpa using h1
 have c2:decide (s.size<=16)=true:=by simpa using h2
 have c3:decide ((1:Int)<=s.size)=true:=by simp;omega
 have c4:decide ((s.size:Int)<=16)=true:=by simp;omega
 go_enter Tryz.func51,Tryz.ntmps51;go_wp2_with fail;go_loopw [3] (fun j wr=> ∃k:Nat,k<=s.size∧j= .int .i64 k∧wr=w) (fun j _=>s.size-(intOf j).toNat);case atStart=>exact⟨0,by omega,rfl,rfl⟩
 case round=>
  obtain⟨k,hk,rfl,rfl⟩:=hrel;by_cases hlt:k<s.size
  ·have d1:decide ((k:Int)<s.size)=true:=by simp;omega
   have d2:decide (k<s.size)=true:=by simpa using hlt
   have hkI:(k:Int)<s.size:=by omega
   have hi: ∀W,(Instr.index 9 (.string s) (.int .i64 k)).run Tryz.prog W= .ok (.int .u8 (s[k].toNat:Int)) W:=fun W=>by
    rw[run_index_string W 9 s .i64 k rfl,dif_pos ⟨by omega,hkI⟩];rfl
   have hc:=h3 k hlt;unfold okC at hc;generalize s[k].toNat=b at*;simp only[Bool.or_eq_true,Bool.and_eq_true,decide_eq_true_eq,bne_iff_ne,ne_eq,beq_iff_eq]at hc;rcases hc with⟨g1,g2⟩|⟨g0,g1⟩
   ·have f1:decide ((97:Int)<=b)=true:=by simp;omega
    have f2:decide ((b:Int)<=122)=true:=by simp;omega
    have f3:decide (97<=b)=true:=by simp;omega
    have f4:decide (b<=122)=true:=by simp;omega
    go_wp2;go_roundw;case rel=>exact⟨k+1,by omega,by go_num,by trivial⟩
    case measure=>simp[intOf];omega
   ·have f1:decide ((97:Int)<=b)=false:=by simp;omega
    have f3:decide (97<=b)=false:=by simp;omega
    have f0:((k:Int)==0)=false:=by simp;omega
    have f5:(k==0)=false:=by simp;omega
    by_cases g45:b=45
    ·subst g45
     go_wp2;go_roundw;case rel=>exact⟨k+1,by omega,by go_num,by trivial⟩
     case measure=>simp[intOf];omega
    ·have f6:((b:Int) !=45)=true:=by simp;omega
     have f7:(b !=45)=true:=by simp;omega
     have f8:decide ((b:Int)<48)=false:=by simp;omega
     have f9:decide (b<48)=false:=by simp;omega
     have e8:decide ((57:Int)<b)=false:=by simp;omega
     have e9:decide (57<b)=false:=by simp;omega
     go_wp2;go_roundw;case rel=>exact⟨k+1,by omega,by go_num,by trivial⟩
     case measure=>simp[intOf];omega
  ·have d1:decide ((k:Int)<s.size)=false:=by simp;omega
   have d2:decide (k<s.size)=false:=by simpa using hlt
   go_wp2;go_ret;exact⟨rfl,rfl⟩
theorem zka:qF qI∧qF xF∧qF xG∧qF xH∧qF sXx∧qF xJ:=by
 refine⟨⟨by decide,by decide,?_⟩,⟨by decide,by decide,?_⟩,⟨by decide,by decide,?_⟩,⟨by decide,by decide,?_⟩,⟨by decide,by decide,?_⟩,⟨by decide,by decide,?_⟩⟩<;>decide
def zg8(n k:Nat)(r:Nat×Int×Int×Int):Prop:=okX r.1=true∧0<=r.2.1∧r.2.1<=64∧0<=r.2.2.1∧r.2.2.1<=64∧(k+1=n->r.2.1=0∧r.2.2.2=k)∧(k+1≠n->(k:Int)<r.2.2.2∧r.2.2.2<n)
def jn(l:List (Nat×Int×Int×Int))(n:Nat):Nat->Nat->Bool
 |0,j=>j==0
 |k+1,j=>jn l n k j||(decide (k+1<n)&&(l[k]?.map (·.2.2.2)==some (j:Int)))
def vw(l:List (Nat×Int×Int×Int))(n k:Nat):Array Value:= #[.bool (jn l n k 0),.bool (jn l n k 1),.bool (jn l n k 2),.bool (jn l n k 3)]
theorem zfq{l:List (Nat×Int×Int×Int)}{n k:Nat}(h:k+1=n):vw l n (k+1)=vw l n k:=by
 have:decide (k+1<n)=false:=by simp;omega
 simp[vw,jn,this]
theorem zg9{l:List (Nat×Int×Int×Int)}{n k t:Nat}{r:Nat×Int×Int×Int}(h:k+1<n)(hn:n<=4)(hl:l[k]? =some r)(ht:r.2.2.2=(t:Int))(htn:t<n):(vw l n k).set! t (.bool true)=vw l n (k+1):=by
 have h1:decide (k+1<n)=true:=by simpa using h
 have:t=0∨t=1∨t=2∨t=3:=by omega
 rcases this with rfl|rfl|rfl|rfl<;>simp[vw,jn,h1,hl,ht]
theorem zkb(l:List (Nat×Int×Int×Int))(n k:Nat){t:Nat}(h:t<4): ∃u,(vw l n k)[t]? =some (.bool u):=by
 have:t=0∨t=1∨t=2∨t=3:=by omega
 rcases this with rfl|rfl|rfl|rfl<;>exact⟨_,rfl⟩
theorem zfr{l:List (Nat×Int×Int×Int)}{n:Nat}(hm: ∀j,j<n->jn l n n j=true){t:Nat}(h:t<n)(hn:n<=4):(vw l n n)[t]? =some (.bool true):=by
 have:t=0∨t=1∨t=2∨t=3:=by omega
 rcases this with rfl|rfl|rfl|rfl<;>simp[vw,hm _ h]
def ziw(l:List (Nat×Int×Int×Int))(n:Nat):Prop:=l.length=n∧1<=n∧n<=4∧(∀k r,l[k]? =some r->zg8 n k r)∧(∀j,j<n->jn l n n j=true)
def zbv(l:List (Nat×Int×Int×Int))(n:Nat)(z:Bool)(full:Int):Prop:= ∃r,l[n-1]? =some r∧((z=true∧FloatKind.f64.format.order r.1 0=some .eq∧1<=full∧full<=64)∨(z=false∧FloatKind.f64.format.order r.1 0=some .gt∧full=0))
theorem j9(s:ByteArray)(A:Option Addr)(n c:Nat)(l:List (Nat×Int×Int×Int))(full:Int)(z:Bool)(w:World)(hA:Rd w A n 4 (y2 l))(hs:qF s)(hg:ziw l n)(hz:zbv l n z full):
 Calls Tryz.prog 26 #[.agg #[.string s,.slice A n c,.int .i64 full]] w fun e w'=>e= .returned (.int .i64 0)∧Ext w w':=by
 obtain⟨hl,hn1,hn4,hr,hm⟩:=hg;have Hl:=Lib.hid hl;have Hr:=Lib.hid hr;have Hm:=Lib.hid hm;have Hz:=Lib.hid hz;have Hs:=Lib.hid hs;clear hl hr hm hz;have hsf:=fun(a:Addr) (x:Nat) (W:World)=>run_store Tryz.prog W a (.float .f64 x) .plain rfl
 have c1:decide ((n:Int)<1)=false:=by simp;omega
 have c2:decide ((4:Int)<n)=false:=by simp;omega
 have c3:decide (n<1)=false:=by simp;omega
 have c4:decide (4<n)=false:=by simp;omega
 have c5:(n==0)=false:=by simp;omega
 go_enter Tryz.func26,Tryz.ntmps26;go_wp2_with(first|(go_at_call 51;refine(zag _ _ hs).mono ?_;rintro e w1 ⟨rfl,rfl⟩)|(go_at_call 52;refine(qV _ _ (by assumption)).mono ?_;rintro e w1 ⟨rfl,rfl⟩));go_loopw [27] (fun i wr=> ∃k:Nat,k<=n∧i= .int .i64 k∧Ext w wr∧Blk wr w.heap.size 25 #[.string s,.slice A n c,.int .i64 full]∧Blk wr (w.heap.size+1) 114 (vw l n k)) (fun i _=>n-(intOf i).toNat);case atStart=>exact⟨0,by omega,rfl,by exact jX,Blk.alloc (Blk.new rfl) _,Blk.new (by simp)⟩
 case round=>
  obtain⟨k,hk,rfl,hE,k1,k2⟩:=hrel;have m1:=k1.cell;have m2:=k2.cell;have f2:=k2.froz;have l1:=k1.lt;have l2:=k2.lt;by_cases hlt:k<n
  ·have hdec:decide ((k:Int)<n)=true:=by simp;omega
   have hdec':decide (k<n)=true:=by simp;omega
   have hkb:(k:Int)<n:=by omega
   obtain⟨r,hrk⟩: ∃r,l[k]? =some r:=⟨_,List.getElem?_eq_getElem (by rw[Hl.out];exact hlt)⟩;obtain⟨b,o,rfl,a0,a1,a2,a3⟩:=qN (hA.ext hE) hrk hlt;have la:=zh a0;obtain⟨g1,g2,g3,g4,g5,g6,g7⟩:=Hr.out k r hrk;obtain⟨x,y,v,t⟩:=r;have Hrk:=Lib.hid hrk;simp only at a0 a1 a2 a3 g1 g2 g3 g4 g5 g6 g7;clear hrk hA;have e1:decide (y<0)=false:=by simp;omega
   have e2:decide (64<y)=false:=by simp;omega
   have e3:decide (v<0)=false:=by simp;omega
   have e4:decide (64<v)=false:=by simp;omega
   by_cases hlast:k+1=n
   ·obtain⟨rfl,rfl⟩:=g6 hlast
    have e5:((k:Int)==(n:Int) -1)=true:=by simp;omega
    clear g6 g7;go_wp2_with(first|(go_at_call 51;refine(zag _ _ hs).mono ?_;rintro e w1 ⟨rfl,rfl⟩)|(go_at_call 52;refine(qV _ _ (by assumption)).mono ?_;rintro e w1 ⟨rfl,rfl⟩));go_roundw;case rel=>exact⟨k+1,by omega,by go_num,by exact jX,k1.ext jX,by rw[zfq hlast];exact k2.ext jX⟩
    case measure=>simp[intOf];omega
   ·obtain⟨h1,h2⟩:=g7 hlast
    have e5:((k:Int)==(n:Int) -1)=false:=by simp;omega
    have e6:decide (t<=(k:Int))=false:=by simp;omega
    have e7:decide ((n:Int)<=t)=false:=by simp;omega
    obtain⟨tt,rfl⟩: ∃tt:Nat,t=tt:=⟨t.toNat,by omega⟩;have e8:decide (tt<=k)=false:=by simp;omega
    have e9:decide (n<=tt)=false:=by simp;omega
    obtain⟨ub,hub⟩:=zkb l n k (show tt<4 by omega);clear g6 g7;have hB:But [w.heap.size+1] wr ((wr.setCell ⟨w.heap.size+1,tt,none⟩ (.bool true)).alloc (.cells #[.float .f64 x,.int .i64 y,.int .i64 v,.int .i64 tt] 79)):=But.alloc (But.setCell (But.refl _ _) (by simp) _) _;go_wp2_with(first|(go_at_call 51;refine(zag _ _ hs).mono ?_;rintro e w1 ⟨rfl,rfl⟩)|(go_at_call 52;refine(qV _ _ (by assumption)).mono ?_;rintro e w1 ⟨rfl,rfl⟩));go_roundw;case rel=>exact⟨k+1,by omega,by go_num,But.ext hE hB (fun q hq=>by have:=List.mem_singleton.1 hq;omega),k1.but hB (fun hq=>by have:=List.mem_singleton.1 hq;omega),by rw[<-zg9 (by omega) hn4 Hrk.out rfl (by omega)];rw[Array.set!_eq_setIfInBounds];exact(k2.set_ tt (.bool true)).alloc _⟩
    case measure=>simp[intOf];omega
  ·have hdec:decide ((k:Int)<n)=false:=by simp;omega
   have hdec':decide (k<n)=false:=by simp;omega
   have hkn:k=n:=by omega
   subst hkn;obtain⟨r,hrl,hzz⟩:=Hz.out;obtain⟨b,o,rfl,a0,_⟩:=qN (hA.ext hE) hrl (by omega);have la:=zh a0;have q1:((k-1:Nat):Int)=(k:Int) -1:=by omega
   go_wp2_with fail;go_loopw [8] (fun i w2=> ∃j:Nat,j<=k∧i= .int .i64 j∧w2=wr) (fun i _=>k-(intOf i).toNat);case atStart=>exact⟨0,by omega,rfl,rfl⟩
   case round=>
    obtain⟨j,hj,rfl,rfl⟩:=hrel;by_cases hjn:j<k
    ·have d1:decide ((j:Int)<k)=true:=by simp;omega
     have d2:decide (j<k)=true:=by simp;omega
     have hjI:(j:Int)<4:=by omega
     have hub:=zfr Hm.out hjn hn4;go_wp2;go_roundw;case rel=>exact⟨j+1,by omega,by go_num,by trivial⟩
     case measure=>simp[intOf];omega
    ·have d1:decide ((j:Int)<k)=false:=by simp;omega
     have d2:decide (j<k)=false:=by simp;omega
     obtain⟨x,y,v,t⟩:=r;simp only at a0 hzz;rcases hzz with⟨rfl,z1,z2,z3⟩|⟨rfl,z1,rfl⟩
     ·have z4:decide (full<1)=false:=by simp;omega
      have z5:decide (64<full)=false:=by simp;omega
      go_wp2;go_ret;exact⟨rfl,by exact jX⟩
     ·go_wp2
      go_ret;exact⟨rfl,by exact jX⟩
theorem vY(s:ByteArray)(A:Option Addr)(n c:Nat)(l:List (Nat×Int×Int×Int))(full:Int)(z:Bool)(w:World)(hA:Rd w A n 4 (y2 l))(hs:qF s)(hg:ziw l n)(hz:zbv l n z full):
 Calls Tryz.prog 74 #[.agg #[.string s,.slice A n c,.int .i64 full]] w fun e w'=>e= .returned (.bool z)∧Ext w w':=by
 have Hg:=Lib.hid hg;have Hz:=Lib.hid hz;clear hg hz;go_enter Tryz.func74,Tryz.ntmps74;go_wp2_with fail;go_at_call 26;refine(j9 _ _ _ _ _ _ _ _ (hA.ext jX) hs Hg.out Hz.out).mono ?_;rintro e w1 ⟨rfl,hE1⟩;obtain⟨r,hrl,hzz⟩:=Hz.out;obtain⟨b,o,rfl,a0,_⟩:=qN (hA.ext (Ext.trans jX hE1)) hrl (by have:=Hg.out.2.1;omega);have la:=zh a0;have q1:((n-1:Nat):Int)=(n:Int) -1:=by have:=Hg.out.2.1;omega
 have q2:(0:Int)<=(n:Int) -1:=by have:=Hg.out.2.1;omega
 have q3:((n:Int) -1).toNat=n-1:=by omega
 have q4:1<=n:=Hg.out.2.1;have q5:n<=4:=Hg.out.2.2.1;have k1:=zbj hE1;have m1:=k1.cell;have l1:=k1.lt;obtain⟨x,y,v,t⟩:=r;simp only at a0 hzz;clear hA;rcases hzz with⟨rfl,z1,z2,z3⟩|⟨rfl,z1,rfl⟩
 ·go_wp2
  go_ret;exact⟨rfl,by exact jX⟩
 ·go_wp2
  go_ret;exact⟨rfl,by exact jX⟩
def zqe(w:World)(r:Ending)(w':World):Prop:=(∃z:Int,r= .returned (.tuple #[.int .i64 z,.int .i64 0]))∧Ext w w'
theorem zha(x n:Nat)(w:World)(hx:okX x=true)(h1:1<=n)(h2:n<=64):Calls Tryz.prog 101 #[.float .f64 x,.int .i64 n] w (zqe w):=by
 have hbits:=fun y W=>zfo y W
 have c1:decide ((n:Int)<1)=false:=by simp;omega
 have c2:decide ((64:Int)<n)=false:=by simp;omega
 have c3:decide (n<1)=false:=by simp;omega
 have c4:decide (64<n)=false:=by simp;omega
 have Hn1:=Lib.hid h1;have Hn2:=Lib.hid h2;clear h1 h2;by_cases h0:x=0
 ·subst h0
  have g0:FloatKind.f64.format.order 0 0=some .eq:=by decide+kernel
  go_enter Tryz.func101,Tryz.ntmps101;go_wp2_with(first|(go_at_call 52;refine(qV _ _ hx).mono ?_;rintro e w1 ⟨rfl,rfl⟩))
  go_ret2
  exact⟨⟨_,rfl⟩,by exact jX⟩
 ·have h:=hx
  unfold okX at h;have b0:(x==0)=false:=by simpa using h0
  simp only[b0,Bool.false_or,Bool.and_eq_true,Bool.or_eq_true,beq_iff_eq]at h;have g1:FloatKind.f64.format.order x 0=some .gt:=h.1;clear h b0 h0;go_enter Tryz.func101,Tryz.ntmps101;go_wp2_with(first|(go_at_call 52;refine(qV _ _ hx).mono ?_;rintro e w1 ⟨rfl,rfl⟩));all_goals(go_ret2;exact⟨⟨_,rfl⟩,by exact jX⟩)
structure Cfg where
 s:ByteArray
 l:List (Nat×Int×Int×Int)
 f:Int
 z:Bool
structure Cfg.Ok(C:Cfg):Prop where
 nm:qF C.s
 good:ziw C.l C.l.length
 last:zbv C.l C.l.length C.z C.f
theorem zix(A:Option Addr)(c k n:Nat)(C:Cfg)(w:World)(hA:Rd w A C.l.length 4 (y2 C.l))(hC:C.Ok)(hk:k<C.l.length)(h1:1<=n)(h2:n<=64):
 Calls Tryz.prog 86 #[.agg #[.string C.s,.slice A C.l.length c,.int .i64 C.f],.int .i64 k,.int .i64 n] w (zqe w):=by
 have d1:decide ((k:Int)<0)=false:=by simp
 have d2:decide ((C.l.length:Int)<=k)=false:=by simp;omega
 have d3:decide (C.l.length<=k)=false:=by simp;omega
 have c1:decide ((n:Int)<1)=false:=by simp;omega
 have c2:decide ((64:Int)<n)=false:=by simp;omega
 have c3:decide (n<1)=false:=by simp;omega
 have c4:decide (64<n)=false:=by simp;omega
 have hkI:(k:Int)<C.l.length:=by omega
 obtain⟨r,hr⟩: ∃r,C.l[k]? =some r:=⟨_,List.getElem?_eq_getElem hk⟩;have g1:=(hC.good.2.2.2.1 k r hr).1;obtain⟨b,o,rfl,a0,a1,a2,a3⟩:=qN hA hr hk;go_enter Tryz.func86,Tryz.ntmps86;go_upto_region 1 with fail;have k3:Blk (w.alloc (.cells #[.string C.s,.slice (some ⟨b,o,none⟩) C.l.length c,.int .i64 C.f] 25)) w.heap.size 25 #[.string C.s,.slice (some ⟨b,o,none⟩) C.l.length c,.int .i64 C.f]:=Blk.new rfl;have hE0:=Ext.alloc (Ext.refl w) (.cells #[.string C.s,.slice (some ⟨b,o,none⟩) C.l.length c,.int .i64 C.f] 25);generalize w.alloc (.cells #[.string C.s,.slice (some ⟨b,o,none⟩) C.l.length c,.int .i64 C.f] 25)=W at*;have hK:=j9 C.s (some ⟨b,o,none⟩) C.l.length c C.l C.f C.z W (hA.ext hE0) hC.nm hC.good hC.last;have c0:=k3.cell;have l0:=k3.lt;go_wp2_with fail;go_at_call 26;refine hK.mono ?_;rintro e w1 ⟨rfl,hE1⟩;clear c0 l0 hK;have k31:=k3.ext hE1;have c0:=k31.cell;have l0:=k31.lt;replace a0:=zp (hE0.trans hE1) a0;have la:=zh a0;have hF:=zha r.1 n w1 g1 h1 h2;clear a1 a2 a3 hr hk h1 h2;go_wp2_with fail;go_at_call 101;refine hF.mono ?_;rintro e w2 ⟨⟨z,rfl⟩,hE2⟩;clear hF a0 c0;go_wp2_with fail
 go_ret2
 exact⟨⟨_,rfl⟩,(hE0.trans hE1).trans hE2⟩
end Go.Proofs.YtopcdfbplknmlaaGreat
